/- For any store and any call the statement IdealApplies returns true (what a call does to a store, and answers, is the document's; what is handed in stays), and nothing that was in memory changes. No condition. -/
import Derived.Test.YthpegmeebhkhbaaSameG
import Derived.Test.YthpegmeebhkhbaaRAp5
import Derived.Test.YthpegmeebhkhbaaIDoes
import Derived.Test.YthpegmeebhkhbaaCalls
import Derived.Test.YthpegmeebhkhbaaOpenCalls
import Derived.Test.YthpegmeebhkhbaaLaw
/- fuseelaw0.SameAnswer at answers that are the same. -/
namespace Go.Proofs.Ythpegmeebhkhbaa
open Go.RowKit

set_option maxHeartbeats 2000000 in
theorem same_ans (a : Ans) (RA : Option Addr) (rc : Nat) (HA : Option Addr) (hc : Nat) (RA' : Option Addr) (rc' : Nat) (HA' : Option Addr) (hc' : Nat) (w : World)
    (h1 : Arr Pair.enc 2 w w.heap.size RA a.pairs) (h2 : Arr Pair.enc 2 w w.heap.size RA' a.pairs) (h3 : Arr bit 1 w w.heap.size HA a.hits) (h4 : Arr bit 1 w w.heap.size HA' a.hits)
    (l1 : a.pairs.length ≤ rc) (m1 : rc ≤ 9223372036854775807) (l2 : a.pairs.length ≤ rc') (m2 : rc' ≤ 9223372036854775807) (l3 : a.hits.length ≤ hc) (m3 : hc ≤ 9223372036854775807) (l4 : a.hits.length ≤ hc') (m4 : hc' ≤ 9223372036854775807) :
    Calls Try.prog 45 #[.agg #[.int .i64 a.code, .bool a.found, .string a.value, .slice RA a.pairs.length rc, .slice HA a.hits.length hc, .int .u64 0], .agg #[.int .i64 a.code, .bool a.found, .string a.value, .slice RA' a.pairs.length rc', .slice HA' a.hits.length hc', .int .u64 0]] w fun e w' => e = .returned (.bool true) ∧ Below w.heap.size w w' := by
  have H1 := hid h1
  have H2 := hid h2
  have H3 := hid h3
  have H4 := hid h4
  clear h1 h2 h3 h4
  have b1 : (a.code == a.code) = true := by simp
  have b2 : (a.found == a.found) = true := by simp
  have b3 : (a.value.toList == a.value.toList) = true := by simp
  go_enter Try.func45, Try.ntmps45
  go_wp2_with fail
  refine (same_pairs a.pairs RA RA' rc rc' _ ?_ ?_ l1 m1 l2 m2).mono ?_
  · exact (H1.out.below (by repeat (first | exact Below.refl _ _ | assumption | refine Below.drew ?_ | refine below_drewN ?_ _ | refine Below.alloc ?_ (by first | omega | (simp; done) | (simp; omega)) _ | refine Below.setCell ?_ (by first | omega | (simp; done) | (simp; omega)) _))).more (by first | omega | (simp; done) | (simp; omega))
  · exact (H2.out.below (by repeat (first | exact Below.refl _ _ | assumption | refine Below.drew ?_ | refine below_drewN ?_ _ | refine Below.alloc ?_ (by first | omega | (simp; done) | (simp; omega)) _ | refine Below.setCell ?_ (by first | omega | (simp; done) | (simp; omega)) _))).more (by first | omega | (simp; done) | (simp; omega))
  rintro e w1 ⟨rfl, hb1⟩
  have hw1 : Below w.heap.size w w1 := Below.trans (by repeat (first | exact Below.refl _ _ | assumption | refine Below.drew ?_ | refine below_drewN ?_ _ | refine Below.alloc ?_ (by first | omega | (simp; done) | (simp; omega)) _ | refine Below.setCell ?_ (by first | omega | (simp; done) | (simp; omega)) _)) (hb1.mono (show w.heap.size ≤ _ from (by first | omega | (simp; done) | (simp; omega))))
  have e0 : w1.cell? ⟨w.heap.size, 4, none⟩ = some (.slice HA a.hits.length hc) := (hb1.cell (p := ⟨w.heap.size, 4, none⟩) (by simp; omega)).trans (by simp [go_sem])
  have e1 : w1.cell? ⟨w.heap.size + 1, 4, none⟩ = some (.slice HA' a.hits.length hc') := (hb1.cell (p := ⟨w.heap.size + 1, 4, none⟩) (by simp)).trans (by simp [go_sem])
  clear hb1
  go_wp2_with fail
  refine (sameB_any a.hits a.hits HA HA' hc hc' _ ?_ ?_ l3 m3 l4 m4).mono ?_
  · exact (H3.out.below hw1).more hw1.size
  · exact (H4.out.below hw1).more hw1.size
  rintro e w2 ⟨rfl, hb2⟩
  go_wp2
  go_ret
  exact ⟨by simp, hw1.trans (hb2.mono hw1.size)⟩
end Go.Proofs.Ythpegmeebhkhbaa
/- The statement IdealApplies: the walk. -/
namespace Go.Proofs.Ythpegmeebhkhbaa
open Go.RowKit

theorem row6 {W : World} {p : Nat} {a0 a1 a2 a3 a4 a5 v0 v1 v2 v3 v4 v5 : Value} {t : TypeId} (h : W.heap[p]? = some (.cells #[a0, a1, a2, a3, a4, a5] t (0, 0))) :
    ((((((W.setCell ⟨p, 0, none⟩ v0).setCell ⟨p, 1, none⟩ v1).setCell ⟨p, 2, none⟩ v2).setCell ⟨p, 3, none⟩ v3).setCell ⟨p, 4, none⟩ v4).setCell ⟨p, 5, none⟩ v5).heap[p]? = some (.cells #[v0, v1, v2, v3, v4, v5] t (0, 0)) := by
  have e1 := heap_setCell_same W p 0 _ _ v0 h
  have e2 := heap_setCell_same _ p 1 _ _ v1 e1
  have e3 := heap_setCell_same _ p 2 _ _ v2 e2
  have e4 := heap_setCell_same _ p 3 _ _ v3 e3
  have e5 := heap_setCell_same _ p 4 _ _ v4 e4
  rw [heap_setCell_same _ p 5 _ _ v5 e5]
  rfl
theorem kept7 {W W' : World} {p q : Nat} {v0 v1 v2 v3 v4 u0 u1 : Value} (hb : Below W.heap.size W W') (hp : p < W.heap.size) (hq : q < W.heap.size) (h : W.cell? ⟨p, 0, none⟩ = some v0 ∧ W.cell? ⟨p, 1, none⟩ = some v1 ∧ W.cell? ⟨p, 2, none⟩ = some v2 ∧ W.cell? ⟨p, 3, none⟩ = some v3 ∧ W.cell? ⟨p, 4, none⟩ = some v4 ∧ W.cell? ⟨q, 0, none⟩ = some u0 ∧ W.cell? ⟨q, 1, none⟩ = some u1) : W'.cell? ⟨p, 0, none⟩ = some v0 ∧ W'.cell? ⟨p, 1, none⟩ = some v1 ∧ W'.cell? ⟨p, 2, none⟩ = some v2 ∧ W'.cell? ⟨p, 3, none⟩ = some v3 ∧ W'.cell? ⟨p, 4, none⟩ = some v4 ∧ W'.cell? ⟨q, 0, none⟩ = some u0 ∧ W'.cell? ⟨q, 1, none⟩ = some u1 := by
  rw [hb.cell (p := ⟨p, 0, none⟩) hp, hb.cell (p := ⟨p, 1, none⟩) hp, hb.cell (p := ⟨p, 2, none⟩) hp, hb.cell (p := ⟨p, 3, none⟩) hp, hb.cell (p := ⟨p, 4, none⟩) hp, hb.cell (p := ⟨q, 0, none⟩) hq, hb.cell (p := ⟨q, 1, none⟩) hq]
  exact h
/-- a store and an answer of the program's, each in a variable -/
def Applied2 (w wx : World) (s : Shelf) (a : Ans) (v5 v6 : Value) : Prop :=
  ∃ lo px pa PX px' QX qx' RA rc HA hc, v5 = .pointer (some ⟨px, 0, none⟩) ∧ v6 = .pointer (some ⟨pa, 0, none⟩) ∧ w.heap.size ≤ lo ∧ lo ≤ wx.heap.size ∧ Below w.heap.size w wx ∧
    wx.heap[px]? = some (.cells #[.slice PX s.pairs.length px', .slice QX s.queue.length qx'] 41 (0, 0)) ∧
    wx.heap[pa]? = some (.cells #[.int .i64 a.code, .bool a.found, .string a.value, .slice RA a.pairs.length rc, .slice HA a.hits.length hc, .int .u64 0] 59 (0, 0)) ∧
    ShOwn wx lo PX px' QX qx' s ∧ Own Pair.enc 81 2 wx lo RA rc a.pairs ∧ Own bit 4 1 wx lo HA hc a.hits
theorem Own.other {α : Type} {enc : α → List Value} {e : TypeId} {k : Nat} {w : World} {lo b i : Nat} {A : Option Addr} {c : Nat} {l : List α} (h : Own enc e k w lo A c l) (hp : b < lo) (u : Value) : Own enc e k (w.setCell ⟨b, i, none⟩ u) lo A c l := h.setCell (p := ⟨b, i, none⟩) hp u
def GivesCallL (c : Call0) (g : List Call0) (w : World) (e : Ending) (w' : World) : Prop :=
  ∃ A' c', e = .returned (.agg #[.int .i64 c.kind, .string c.key, .string c.val, .string c.to, .slice A' g.length c']) ∧ Arr Call0.enc 5 w' w'.heap.size A' g ∧ g.length ≤ c' ∧ c' ≤ 9223372036854775807 ∧ Below w.heap.size w w'
theorem apS_at (kind : Int) (key val to' : ByteArray) (A B : Option Addr) (n c d : Nat) (g : List Call0) (s : Shelf) : apS ⟨kind, key, val, to', A, n, c⟩ g s = apS ⟨kind, key, val, to', B, n, d⟩ g s := rfl
theorem apA_at (kind : Int) (key val to' : ByteArray) (A B : Option Addr) (n c d : Nat) (g : List Call0) (s : Shelf) : apA ⟨kind, key, val, to', A, n, c⟩ g s = apA ⟨kind, key, val, to', B, n, d⟩ g s := rfl
theorem kept20 {W W' : World} {pA pB pC pD pE pF : Nat} {vA0 vA1 vB0 vB1 vC0 vC1 vD0 vD1 vE0 vE1 vE2 vE3 vE4 vE5 vF0 vF1 vF2 vF3 vF4 vF5 : Value} (hb : Below W.heap.size W W') (hl : pA < W.heap.size ∧ pB < W.heap.size ∧ pC < W.heap.size ∧ pD < W.heap.size ∧ pE < W.heap.size ∧ pF < W.heap.size) (h : W.cell? ⟨pA, 0, none⟩ = some vA0 ∧ W.cell? ⟨pA, 1, none⟩ = some vA1 ∧ W.cell? ⟨pB, 0, none⟩ = some vB0 ∧ W.cell? ⟨pB, 1, none⟩ = some vB1 ∧ W.cell? ⟨pC, 0, none⟩ = some vC0 ∧ W.cell? ⟨pC, 1, none⟩ = some vC1 ∧ W.cell? ⟨pD, 0, none⟩ = some vD0 ∧ W.cell? ⟨pD, 1, none⟩ = some vD1 ∧ W.cell? ⟨pE, 0, none⟩ = some vE0 ∧ W.cell? ⟨pE, 1, none⟩ = some vE1 ∧ W.cell? ⟨pE, 2, none⟩ = some vE2 ∧ W.cell? ⟨pE, 3, none⟩ = some vE3 ∧ W.cell? ⟨pE, 4, none⟩ = some vE4 ∧ W.cell? ⟨pE, 5, none⟩ = some vE5 ∧ W.cell? ⟨pF, 0, none⟩ = some vF0 ∧ W.cell? ⟨pF, 1, none⟩ = some vF1 ∧ W.cell? ⟨pF, 2, none⟩ = some vF2 ∧ W.cell? ⟨pF, 3, none⟩ = some vF3 ∧ W.cell? ⟨pF, 4, none⟩ = some vF4 ∧ W.cell? ⟨pF, 5, none⟩ = some vF5) : W'.cell? ⟨pA, 0, none⟩ = some vA0 ∧ W'.cell? ⟨pA, 1, none⟩ = some vA1 ∧ W'.cell? ⟨pB, 0, none⟩ = some vB0 ∧ W'.cell? ⟨pB, 1, none⟩ = some vB1 ∧ W'.cell? ⟨pC, 0, none⟩ = some vC0 ∧ W'.cell? ⟨pC, 1, none⟩ = some vC1 ∧ W'.cell? ⟨pD, 0, none⟩ = some vD0 ∧ W'.cell? ⟨pD, 1, none⟩ = some vD1 ∧ W'.cell? ⟨pE, 0, none⟩ = some vE0 ∧ W'.cell? ⟨pE, 1, none⟩ = some vE1 ∧ W'.cell? ⟨pE, 2, none⟩ = some vE2 ∧ W'.cell? ⟨pE, 3, none⟩ = some vE3 ∧ W'.cell? ⟨pE, 4, none⟩ = some vE4 ∧ W'.cell? ⟨pE, 5, none⟩ = some vE5 ∧ W'.cell? ⟨pF, 0, none⟩ = some vF0 ∧ W'.cell? ⟨pF, 1, none⟩ = some vF1 ∧ W'.cell? ⟨pF, 2, none⟩ = some vF2 ∧ W'.cell? ⟨pF, 3, none⟩ = some vF3 ∧ W'.cell? ⟨pF, 4, none⟩ = some vF4 ∧ W'.cell? ⟨pF, 5, none⟩ = some vF5 := by
  obtain ⟨hA, hB, hC, hD, hE, hF⟩ := hl
  rw [hb.cell (p := ⟨pA, 0, none⟩) hA, hb.cell (p := ⟨pA, 1, none⟩) hA, hb.cell (p := ⟨pB, 0, none⟩) hB, hb.cell (p := ⟨pB, 1, none⟩) hB, hb.cell (p := ⟨pC, 0, none⟩) hC, hb.cell (p := ⟨pC, 1, none⟩) hC, hb.cell (p := ⟨pD, 0, none⟩) hD, hb.cell (p := ⟨pD, 1, none⟩) hD, hb.cell (p := ⟨pE, 0, none⟩) hE, hb.cell (p := ⟨pE, 1, none⟩) hE, hb.cell (p := ⟨pE, 2, none⟩) hE, hb.cell (p := ⟨pE, 3, none⟩) hE, hb.cell (p := ⟨pE, 4, none⟩) hE, hb.cell (p := ⟨pE, 5, none⟩) hE, hb.cell (p := ⟨pF, 0, none⟩) hF, hb.cell (p := ⟨pF, 1, none⟩) hF, hb.cell (p := ⟨pF, 2, none⟩) hF, hb.cell (p := ⟨pF, 3, none⟩) hF, hb.cell (p := ⟨pF, 4, none⟩) hF, hb.cell (p := ⟨pF, 5, none⟩) hF]
  exact h
set_option maxHeartbeats 4000000 in
set_option maxRecDepth 100000 in
theorem idealApplies_any (s : Shelf) (PA : Option Addr) (pc : Nat) (QA : Option Addr) (qc : Nat) (c : Call0) (g : List Call0) (w : World) (h : ShIn w w.heap.size PA pc QA qc s) (hc : CallIn w w.heap.size c g) (hel : ∀ x ∈ g, ∃ g', CallIn w w.heap.size x g') :
    Calls Try.prog 12 #[.agg #[.slice PA s.pairs.length pc, .slice QA s.queue.length qc], .agg #[.int .i64 c.kind, .string c.key, .string c.val, .string c.to, .slice c.gA c.gn c.gc]] w fun e w' => e = .returned (.bool true) ∧ Below w.heap.size w w' := by
  obtain ⟨kind, key, val, to', gA, gn, gc⟩ := c
  obtain rfl : gn = g.length := hc.len
  have H := hid h
  have HC := hid hc
  have HEL := hid hel
  have hplen := h.plen
  have hpmax := h.pmax
  clear h hc hel
  have HCW := hid (fun (W : World) (hb : Below w.heap.size w W) => show CallIn W W.heap.size ⟨kind, key, val, to', gA, g.length, gc⟩ g from (HC.out.below hb).more hb.size)
  have bw0 : Below w.heap.size w ((w.alloc (.cells #[.slice PA s.pairs.length pc, .slice QA s.queue.length qc] 41)).alloc (.cells #[.int .i64 kind, .string key, .string val, .string to', .slice gA g.length gc] 50)) := (by repeat (first | exact Below.refl _ _ | assumption | refine Below.drew ?_ | refine below_drewN ?_ _ | refine Below.alloc ?_ (by first | omega | (simp; done) | (simp; omega)) _ | refine Below.setCell ?_ (by first | omega | (simp; done) | (simp; omega)) _))
  go_enter Try.func12, Try.ntmps12
  go_wp2_with fail
  refine (large_any s PA pc QA qc ⟨kind, key, val, to', gA, g.length, gc⟩ g _ (in_below H.out bw0) (HCW.out _ bw0)).mono ?_
  rintro e w2 ⟨r, rfl, hb2, hsm⟩
  have hz2 := hb2.size
  simp only [World.size_alloc] at hz2
  have D0 : w2.heap[w.heap.size]? = some (.cells #[.slice PA s.pairs.length pc, .slice QA s.queue.length qc] 41 (0, 0)) := (hb2.block _ (by simp; omega)).trans (by repeat (first | with_reducible exact heap_newR (by first | omega | (simp; done) | (simp; omega)) | exact heap_newR (by first | omega | (simp; done) | (simp; omega)) | (with_reducible refine (Below.heap_alloc _ _ _ ?_).trans ?_; exact (by first | omega | (simp; done) | (simp; omega)))))
  have D1 : w2.heap[w.heap.size + 1]? = some (.cells #[.int .i64 kind, .string key, .string val, .string to', .slice gA g.length gc] 50 (0, 0)) := (hb2.block _ (by simp)).trans (by repeat (first | with_reducible exact heap_newR (by first | omega | (simp; done) | (simp; omega)) | exact heap_newR (by first | omega | (simp; done) | (simp; omega)) | (with_reducible refine (Below.heap_alloc _ _ _ ?_).trans ?_; exact (by first | omega | (simp; done) | (simp; omega)))))
  have bw2 : Below w.heap.size w w2 := bw0.trans (hb2.mono bw0.size)
  clear hb2 bw0
  cases r with
  | true =>
    clear hsm
    go_wp2_with fail
    refine (awake15 _).mono ?_
    rintro e w9 ⟨rfl, hb9⟩
    go_wp2
    go_ret
    exact ⟨rfl, bw2.trans (hb9.mono bw2.size)⟩
  | false =>
  have HS := hid (hsm rfl)
  clear hsm
  have HP := hid (show s.pairs.length ≤ 80000 by have := HS.out.pairs; omega)
  have HQ := hid (show s.queue.length ≤ 80000 by have := HS.out.queue; omega)
  have c0 := cell_of_row w2 _ 0 _ _ _ D0
  have c1 := cell_of_row w2 _ 1 _ _ _ D0
  have hl0 : w.heap.size < w2.heap.size := by omega
  go_wp2_with fail
  refine (copyShelf_any s PA pc QA qc _ (in_below H.out bw2) (by have := HP.out; omega) (by have := HQ.out; omega)).mono ?_
  rintro e w3 ⟨PI, pi, QI, qi, rfl, hownI, hb3⟩
  have hz3 : w2.heap.size ≤ w3.heap.size := hb3.size
  replace D0 := (hb3.block _ (by omega)).trans D0
  replace D1 := (hb3.block _ (by omega)).trans D1
  have bw3 : Below w.heap.size w w3 := bw2.trans (hb3.mono bw2.size)
  have HOI := hid hownI
  clear c0 c1 hl0 hb3 hownI bw2
  go_upto_region 4 with fail
  obtain ⟨wB, hwB⟩ : ∃ wB, wB = w3.alloc (.cells #[.slice PI s.pairs.length pi, .slice QI s.queue.length qi] 41) := ⟨_, rfl⟩
  rw [← hwB]
  have b3B : Below w3.heap.size w3 wB := by rw [hwB]; exact (by repeat (first | exact Below.refl _ _ | assumption | refine Below.drew ?_ | refine below_drewN ?_ _ | refine Below.alloc ?_ (by first | omega | (simp; done) | (simp; omega)) _ | refine Below.setCell ?_ (by first | omega | (simp; done) | (simp; omega)) _))
  have zB : wB.heap.size = w3.heap.size + 1 := by rw [hwB]; simp
  replace D0 := (b3B.block _ (by omega)).trans D0
  replace D1 := (b3B.block _ (by omega)).trans D1
  have D5 : wB.heap[w3.heap.size]? = some (.cells #[.slice PI s.pairs.length pi, .slice QI s.queue.length qi] 41 (0, 0)) := by rw [hwB]; exact heap_new rfl
  have bwB : Below w.heap.size w wB := bw3.trans (b3B.mono bw3.size)
  clear hwB
  have HOB := hid (HOI.out.below b3B)
  have HIB := hid (fun X (hX : Below wB.heap.size wB X) => in_below HOB.out.in_ hX)
  have HSB := hid (fun X (hX : Below wB.heap.size wB X) => in_below H.out (bwB.trans (hX.mono bwB.size)))
  have HCB := hid (fun X (hX : Below wB.heap.size wB X) => HCW.out X (bwB.trans (hX.mono bwB.size)))
  have HBB := hid bwB
  have HDD := hid (And.intro D0 (And.intro D1 D5))
  have m0 := cell_of_row wB _ 0 _ _ _ D1
  have m1 := cell_of_row wB _ 1 _ _ _ D1
  have m2 := cell_of_row wB _ 2 _ _ _ D1
  have m3 := cell_of_row wB _ 3 _ _ _ D1
  have m4 := cell_of_row wB _ 4 _ _ _ D1
  have i0 := cell_of_row wB _ 0 _ _ _ D5
  have i1 := cell_of_row wB _ 1 _ _ _ D5
  simp only [List.getElem?_toArray, List.getElem?_cons_zero, List.getElem?_cons_succ] at m0 m1 m2 m3 m4 i0 i1
  have l1 : w.heap.size + 1 < wB.heap.size := by omega
  have l5 : w3.heap.size < wB.heap.size := by omega
  have HG6 := hid (show g.length ≤ 1000000 by have := HS.out.group; omega)
  have HQ9 := hid (show s.pairs.length ≤ 90000 ∧ s.queue.length ≤ 90000 by have := HP.out; have := HQ.out; omega)
  have HCPY := hid (fun X (hX : Below wB.heap.size wB X) => copyCall_any ⟨kind, key, val, to', gA, g.length, gc⟩ g X (HCB.out X hX) HG6.out)
  obtain ⟨S, hS⟩ : ∃ S, S = apS ⟨kind, key, val, to', gA, g.length, gc⟩ g s := ⟨_, rfl⟩
  obtain ⟨a, ha⟩ : ∃ a, a = apA ⟨kind, key, val, to', gA, g.length, gc⟩ g s := ⟨_, rfl⟩
  have HSS := hid hS
  have HAA := hid ha
  clear hS ha
  have HAPL := hid (fun (X : World) (A' : Option Addr) (c' : Nat) (hX : Below wB.heap.size wB X) (h1 : Arr Call0.enc 5 X X.heap.size A' g) (h2 : g.length ≤ c') (h3 : c' ≤ 9223372036854775807) => show Calls Try.prog 36 #[.agg #[.slice PI s.pairs.length pi, .slice QI s.queue.length qi], .agg #[.int .i64 kind, .string key, .string val, .string to', .slice A' g.length c']] X (GivesApL S a X) from by
    rw [HSS.out, HAA.out, apS_at kind key val to' gA A' g.length gc c' g s, apA_at kind key val to' gA A' g.length gc c' g s]
    exact apply_anyL s PI pi QI qi ⟨kind, key, val, to', A', g.length, c'⟩ g X (HIB.out X hX) HQ9.out.1 HQ9.out.2 ⟨h1, rfl, h2, h3⟩)
  have HALL := hid (show wB.cell? ⟨w.heap.size + 1, 0, none⟩ = some (.int .i64 kind) ∧ wB.cell? ⟨w.heap.size + 1, 1, none⟩ = some (.string key) ∧ wB.cell? ⟨w.heap.size + 1, 2, none⟩ = some (.string val) ∧ wB.cell? ⟨w.heap.size + 1, 3, none⟩ = some (.string to') ∧ wB.cell? ⟨w.heap.size + 1, 4, none⟩ = some (.slice gA g.length gc) ∧ wB.cell? ⟨w3.heap.size, 0, none⟩ = some (.slice PI s.pairs.length pi) ∧ wB.cell? ⟨w3.heap.size, 1, none⟩ = some (.slice QI s.queue.length qi) from ⟨m0, m1, m2, m3, m4, i0, i1⟩)
  have HZB := hid zB
  clear D0 D1 D5 bwB b3B bw3 HOI zB
  go_cut [6, 7] (fun v6 v7 wx => Applied2 wB wx S a v6 v7)
  case first =>
    go_region_held3 (fun W' => W'.cell? ⟨w.heap.size + 1, 0, none⟩ = some (.int .i64 kind) ∧ W'.cell? ⟨w.heap.size + 1, 1, none⟩ = some (.string key) ∧ W'.cell? ⟨w.heap.size + 1, 2, none⟩ = some (.string val) ∧ W'.cell? ⟨w.heap.size + 1, 3, none⟩ = some (.string to') ∧ W'.cell? ⟨w.heap.size + 1, 4, none⟩ = some (.slice gA g.length gc) ∧ W'.cell? ⟨w3.heap.size, 0, none⟩ = some (.slice PI s.pairs.length pi) ∧ W'.cell? ⟨w3.heap.size, 1, none⟩ = some (.slice QI s.queue.length qi)) (first | exact kept7 (W := wB) (by repeat (first | with_reducible exact Below.refl _ _ | with_reducible assumption | with_reducible refine Below.drew ?_ | with_reducible refine below_drewN ?_ _ | with_reducible refine Below.alloc ?_ (by first | omega | (simp; done) | (simp; omega)) _ | with_reducible refine Below.setCell ?_ (by first | omega | (simp; done) | (simp; omega)) _)) l1 l5 HALL.out | go_keep) (first | (go_at_call 41; refine (HCPY.out _ ?_).mono ?_; (exact (by repeat (first | with_reducible exact Below.refl _ _ | with_reducible assumption | with_reducible refine Below.drew ?_ | with_reducible refine below_drewN ?_ _ | with_reducible refine Below.alloc ?_ (by first | omega | (simp; done) | (simp; omega)) _ | with_reducible refine Below.setCell ?_ (by first | omega | (simp; done) | (simp; omega)) _))); rintro e wX ⟨A', c', rfl, hownC, hbX⟩; have sX := hbX.size; have kX := bcellD hbX; obtain ⟨hcX, hfX⟩ := bcellE hbX; (try simp only [World.size_alloc, World.size_drew] at sX); have stX : Below wB.heap.size wB wX := (by refine Below.trans ?_ (hbX.mono ?_); exact (by repeat (first | with_reducible exact Below.refl _ _ | with_reducible assumption | with_reducible refine Below.drew ?_ | with_reducible refine below_drewN ?_ _ | with_reducible refine Below.alloc ?_ (by first | omega | (simp; done) | (simp; omega)) _ | with_reducible refine Below.setCell ?_ (by first | omega | (simp; done) | (simp; omega)) _)); (first | exact Nat.le_refl _ | (simp; done) | (simp; omega) | (have := sX; omega))); (try have ltX0 : wB.heap.size < wX.heap.size := by omega); (try have neX0 : ¬ wB.heap.size = wX.heap.size := by omega); (try have enX0 : ¬ wX.heap.size = wB.heap.size := by omega); (try have zcX0 := fun o => hcX (wB.heap.size) o (by first | omega | (simp; done) | (simp; omega))); (try have zfX0 := fun o => hfX (wB.heap.size) o (by first | omega | (simp; done) | (simp; omega))); (try have ltX1 : wB.heap.size + 1 < wX.heap.size := by omega); (try have neX1 : ¬ wB.heap.size + 1 = wX.heap.size := by omega); (try have enX1 : ¬ wX.heap.size = wB.heap.size + 1 := by omega); (try have zcX1 := fun o => hcX (wB.heap.size + 1) o (by first | omega | (simp; done) | (simp; omega))); (try have zfX1 := fun o => hfX (wB.heap.size + 1) o (by first | omega | (simp; done) | (simp; omega)))) | (go_at_call 36; refine (HAPL.out _ A' c' ?_ ?_ hownC.len hownC.max).mono ?_; (exact (by repeat (first | with_reducible exact Below.refl _ _ | with_reducible assumption | with_reducible refine Below.drew ?_ | with_reducible refine below_drewN ?_ _ | with_reducible refine Below.alloc ?_ (by first | omega | (simp; done) | (simp; omega)) _ | with_reducible refine Below.setCell ?_ (by first | omega | (simp; done) | (simp; omega)) _))); (exact ((hownC.arr Call0.enc_len).below (show Below wX.heap.size wX _ from (by repeat (first | with_reducible exact Below.refl _ _ | with_reducible assumption | with_reducible refine Below.drew ?_ | with_reducible refine below_drewN ?_ _ | with_reducible refine Below.alloc ?_ (by first | omega | (simp; done) | (simp; omega)) _ | with_reducible refine Below.setCell ?_ (by first | omega | (simp; done) | (simp; omega)) _)))).more (show Below wX.heap.size wX _ from (by repeat (first | with_reducible exact Below.refl _ _ | with_reducible assumption | with_reducible refine Below.drew ?_ | with_reducible refine below_drewN ?_ _ | with_reducible refine Below.alloc ?_ (by first | omega | (simp; done) | (simp; omega)) _ | with_reducible refine Below.setCell ?_ (by first | omega | (simp; done) | (simp; omega)) _))).size); rintro e wY ⟨loY, PX, px, QX, qx, RX, rx, HX, hx, hlo, rfl, hownX, hownR, hownH, hbY⟩; (try simp only [World.size_alloc] at hlo); have HLO := hid hlo; have sY := hbY.size; have kY := bcellD hbY; obtain ⟨hcY, hfY⟩ := bcellE hbY; (try simp only [World.size_alloc] at sY); have stY : Below wB.heap.size wB wY := (by refine Below.trans ?_ (hbY.mono ?_); exact (by repeat (first | with_reducible exact Below.refl _ _ | with_reducible assumption | with_reducible refine Below.drew ?_ | with_reducible refine below_drewN ?_ _ | with_reducible refine Below.alloc ?_ (by first | omega | (simp; done) | (simp; omega)) _ | with_reducible refine Below.setCell ?_ (by first | omega | (simp; done) | (simp; omega)) _)); (first | exact Nat.le_refl _ | (simp; done) | (simp; omega) | (have := sY; omega) | exact stX.size)); (try have ltY0 : wB.heap.size < wY.heap.size := by omega); (try have neY0 : ¬ wB.heap.size = wY.heap.size := by omega); (try have enY0 : ¬ wY.heap.size = wB.heap.size := by omega); (try have zcY0 := fun o => hcY (wB.heap.size) o (by first | omega | (simp; done) | (simp; omega))); (try have zfY0 := fun o => hfY (wB.heap.size) o (by first | omega | (simp; done) | (simp; omega))); (try have ltY1 : wB.heap.size + 1 < wY.heap.size := by omega); (try have neY1 : ¬ wB.heap.size + 1 = wY.heap.size := by omega); (try have enY1 : ¬ wY.heap.size = wB.heap.size + 1 := by omega); (try have zcY1 := fun o => hcY (wB.heap.size + 1) o (by first | omega | (simp; done) | (simp; omega))); (try have zfY1 := fun o => hfY (wB.heap.size + 1) o (by first | omega | (simp; done) | (simp; omega))); (try have ltY2 : wX.heap.size < wY.heap.size := by omega); (try have neY2 : ¬ wX.heap.size = wY.heap.size := by omega); (try have enY2 : ¬ wY.heap.size = wX.heap.size := by omega); (try have zcY2 := fun o => hcY (wX.heap.size) o (by first | omega | (simp; done) | (simp; omega))); (try have zfY2 := fun o => hfY (wX.heap.size) o (by first | omega | (simp; done) | (simp; omega))); (try have ltY3 : wX.heap.size + 1 < wY.heap.size := by omega); (try have neY3 : ¬ wX.heap.size + 1 = wY.heap.size := by omega); (try have enY3 : ¬ wY.heap.size = wX.heap.size + 1 := by omega); (try have zcY3 := fun o => hcY (wX.heap.size + 1) o (by first | omega | (simp; done) | (simp; omega))); (try have zfY3 := fun o => hfY (wX.heap.size + 1) o (by first | omega | (simp; done) | (simp; omega)))))
    all_goals
      go_wp2_with fail
      go_meet
      have hlo := HLO.out
      refine ⟨loY, _, _, PX, px, QX, qx, RX, rx, HX, hx, rfl, rfl, ?_, ?_, (by repeat (first | with_reducible exact Below.refl _ _ | with_reducible assumption | with_reducible refine Below.drew ?_ | with_reducible refine below_drewN ?_ _ | with_reducible refine Below.alloc ?_ (by first | omega | (simp; done) | (simp; omega)) _ | with_reducible refine Below.setCell ?_ (by first | omega | (simp; done) | (simp; omega)) _)), ?_, ?_, ⟨?_, ?_, hownX.apart⟩, ?_, ?_⟩
      · omega
      · first | omega | (simp only [World.size_alloc]; omega) | (simp; omega)
      · (repeat (first | with_reducible refine row2 (a := .slice none 0 0) (b := .slice none 0 0) ?_ | with_reducible exact heap_new (by first | omega | (simp; done) | (simp only [World.size_alloc]; omega) | (simp; omega)) | (with_reducible refine (heap_set_other ?_).trans ?_; omega) | (with_reducible refine (Below.heap_alloc _ _ _ ?_).trans ?_; exact (by first | omega | (simp; done) | (simp only [World.size_alloc]; omega) | (simp; omega))) | (with_reducible refine (kY _ ?_).trans ?_; exact (by first | omega | (simp; done) | (simp only [World.size_alloc]; omega) | (simp; omega))) | (with_reducible refine (kX _ ?_).trans ?_; exact (by first | omega | (simp; done) | (simp only [World.size_alloc]; omega) | (simp; omega))) | with_reducible refine (heap_drw _ _).trans ?_))
      · (repeat (first | with_reducible apply row6 | with_reducible exact heap_new (by first | omega | (simp; done) | (simp only [World.size_alloc]; omega) | (simp; omega)) | (with_reducible refine (heap_set_other ?_).trans ?_; omega) | (with_reducible refine (Below.heap_alloc _ _ _ ?_).trans ?_; exact (by first | omega | (simp; done) | (simp only [World.size_alloc]; omega) | (simp; omega))) | (with_reducible refine (kY _ ?_).trans ?_; exact (by first | omega | (simp; done) | (simp only [World.size_alloc]; omega) | (simp; omega))) | (with_reducible refine (kX _ ?_).trans ?_; exact (by first | omega | (simp; done) | (simp only [World.size_alloc]; omega) | (simp; omega))) | with_reducible refine (heap_drw _ _).trans ?_))
      · repeat (first | with_reducible exact hownX.pairs | with_reducible exact hownX.queue | with_reducible exact hownR | with_reducible exact hownH | with_reducible refine Own.drew ?_ | with_reducible refine Own.alloc ?_ _ | with_reducible refine Own.other ?_ (by omega) _)
      · repeat (first | with_reducible exact hownX.pairs | with_reducible exact hownX.queue | with_reducible exact hownR | with_reducible exact hownH | with_reducible refine Own.drew ?_ | with_reducible refine Own.alloc ?_ _ | with_reducible refine Own.other ?_ (by omega) _)
      · repeat (first | with_reducible exact hownX.pairs | with_reducible exact hownX.queue | with_reducible exact hownR | with_reducible exact hownH | with_reducible refine Own.drew ?_ | with_reducible refine Own.alloc ?_ _ | with_reducible refine Own.other ?_ (by omega) _)
      · repeat (first | with_reducible exact hownX.pairs | with_reducible exact hownX.queue | with_reducible exact hownR | with_reducible exact hownH | with_reducible refine Own.drew ?_ | with_reducible refine Own.alloc ?_ _ | with_reducible refine Own.other ?_ (by omega) _)
  case rest =>
    obtain ⟨lo, p6, p7, PX, px, QX, qx, RX, rx, HX, hx, rfl, rfl, hlo1, hlo2, st, R6, R7, hownX, hownR, hownH⟩ := hcut
    obtain ⟨D0, D1, D5⟩ := HDD.out
    have zst := st.size
    replace D0 := (st.block _ (by omega)).trans D0
    replace D1 := (st.block _ (by omega)).trans D1
    replace D5 := (st.block _ (by omega)).trans D5
    have bwc : Below w.heap.size w wc := HBB.out.trans (st.mono HBB.out.size)
    have HXO := hid hownX
    have HRO := hid hownR
    have HHO := hid hownH
    have HSTC := hid st
    have l0c : w.heap.size < wc.heap.size := by omega
    have l1c : w.heap.size + 1 < wc.heap.size := by omega
    have l5c : w3.heap.size < wc.heap.size := by omega
    have l6c := lt_of_heap R6
    have l7c := lt_of_heap R7
    have m0 := cell_of_row wc _ 0 _ _ _ D0
    have m1 := cell_of_row wc _ 1 _ _ _ D0
    have n0 := cell_of_row wc _ 0 _ _ _ D1
    have n1 := cell_of_row wc _ 1 _ _ _ D1
    have n2 := cell_of_row wc _ 2 _ _ _ D1
    have n3 := cell_of_row wc _ 3 _ _ _ D1
    have n4 := cell_of_row wc _ 4 _ _ _ D1
    clear hownX hownR hownH st
    go_wp2_with fail
    refine (refap_any s PA pc QA qc kind key val to' gA gc g _ (in_below H.out bwc) HP.out HQ.out (HCW.out _ bwc) (fun x hx => by obtain ⟨g', h⟩ := HEL.out x hx; exact ⟨g', (h.below bwc).more bwc.size⟩)).mono ?_
    rintro e w5 ⟨PY, py, QY, qy, RY, ry, HY, hy, he, hinY, harrY, hry1, hry2, hhY, hhy1, hhy2, hb5⟩
    rw [← HSS.out] at he hinY
    rw [← HAA.out] at he harrY hry1 hhY hhy1
    subst he
    have z5 : wc.heap.size ≤ w5.heap.size := hb5.size
    replace D0 := (hb5.block _ l0c).trans D0
    replace D1 := (hb5.block _ l1c).trans D1
    replace D5 := (hb5.block _ l5c).trans D5
    replace R6 := (hb5.block _ l6c).trans R6
    replace R7 := (hb5.block _ l7c).trans R7
    have bw5 : Below w.heap.size w w5 := bwc.trans (hb5.mono bwc.size)
    have hcy : Below wc.heap.size wc w5 := hb5
    have HYI := hid hinY
    have HYR := hid harrY
    have HYH := hid hhY
    clear m0 m1 n0 n1 n2 n3 n4 hinY harrY hhY hb5 bwc
    obtain ⟨wD, hwD⟩ : ∃ wD, wD = (w5.alloc (.cells #[.slice PY S.pairs.length py, .slice QY S.queue.length qy] 41)).alloc (.cells #[.int .i64 a.code, .bool a.found, .string a.value, .slice RY a.pairs.length ry, .slice HY a.hits.length hy, .int .u64 0] 59) := ⟨_, rfl⟩
    go_upto_region 6 with fail
    rw [← hwD]
    have b5D : Below w5.heap.size w5 wD := by rw [hwD]; exact (by repeat (first | exact Below.refl _ _ | assumption | refine Below.drew ?_ | refine below_drewN ?_ _ | refine Below.alloc ?_ (by first | omega | (simp; done) | (simp; omega)) _ | refine Below.setCell ?_ (by first | omega | (simp; done) | (simp; omega)) _))
    have zD : w5.heap.size + 2 ≤ wD.heap.size := by rw [hwD]; simp
    replace D0 := (b5D.block _ (by omega)).trans D0
    replace D1 := (b5D.block _ (by omega)).trans D1
    replace D5 := (b5D.block _ (by omega)).trans D5
    replace R6 := (b5D.block _ (by omega)).trans R6
    replace R7 := (b5D.block _ (by omega)).trans R7
    have R8 : wD.heap[w5.heap.size]? = some (.cells #[.slice PY S.pairs.length py, .slice QY S.queue.length qy] 41 (0, 0)) := by rw [hwD]; exact (Below.heap_alloc _ _ _ (by simp)).trans (heap_new rfl)
    have R9 : wD.heap[w5.heap.size + 1]? = some (.cells #[.int .i64 a.code, .bool a.found, .string a.value, .slice RY a.pairs.length ry, .slice HY a.hits.length hy, .int .u64 0] 59 (0, 0)) := by rw [hwD]; exact heap_new (by simp)
    have bwD : Below w.heap.size w wD := bw5.trans (b5D.mono bw5.size)
    have bcD : Below wc.heap.size wc wD := hcy.trans (b5D.mono z5)
    have bBD : Below wB.heap.size wB wD := HSTC.out.trans (bcD.mono zst)
    clear hwD hcy
    have g0 := cell_of_row wD _ 0 _ _ _ D5
    have g1 := cell_of_row wD _ 1 _ _ _ D5
    have g2 := cell_of_row wD _ 1 _ _ _ D1
    go_wp2_with fail
    refine (get_any s PI pi QI s.queue.length qi key _ (HIB.out _ bBD).pairs (HIB.out _ bBD).plen (HIB.out _ bBD).pmax).mono ?_
    rintro e wE ⟨rfl, hbE⟩
    have zE : wD.heap.size ≤ wE.heap.size := hbE.size
    obtain ⟨gv, hgv⟩ : ∃ gv, gv = getD' s.pairs key := ⟨_, rfl⟩
    have HGV := hid hgv
    rw [← hgv]
    replace D0 := (hbE.block _ (by omega)).trans D0
    replace D1 := (hbE.block _ (by omega)).trans D1
    replace D5 := (hbE.block _ (by omega)).trans D5
    replace R6 := (hbE.block _ (by omega)).trans R6
    replace R7 := (hbE.block _ (by omega)).trans R7
    replace R8 := (hbE.block _ (by omega)).trans R8
    replace R9 := (hbE.block _ (by omega)).trans R9
    have bDE : Below wD.heap.size wD wE := hbE
    have bwE : Below w.heap.size w wE := bwD.trans (hbE.mono bwD.size)
    clear g0 g1 g2 hgv hbE
    have g0 := cell_of_row wE _ 0 _ _ _ D0
    have g1 := cell_of_row wE _ 1 _ _ _ D0
    have g2 := cell_of_row wE _ 1 _ _ _ D1
    have lE0 : w.heap.size < wE.heap.size := by omega
    have lE1 : w.heap.size + 1 < wE.heap.size := by omega
    go_wp2_with fail
    refine (refget_any s PA pc QA s.queue.length qc key _ (in_below H.out bwE).pairs hplen hpmax).mono ?_
    rintro e wF ⟨rfl, hbF⟩
    have zF : wE.heap.size ≤ wF.heap.size := hbF.size
    rw [← HGV.out]
    replace D0 := (hbF.block _ (by omega)).trans D0
    replace D5 := (hbF.block _ (by omega)).trans D5
    replace R6 := (hbF.block _ (by omega)).trans R6
    replace R7 := (hbF.block _ (by omega)).trans R7
    replace R8 := (hbF.block _ (by omega)).trans R8
    replace R9 := (hbF.block _ (by omega)).trans R9
    have bwF : Below w.heap.size w wF := bwE.trans (hbF.mono bwE.size)
    have bDF : Below wD.heap.size wD wF := bDE.trans (hbF.mono zE)
    have bcF : Below wc.heap.size wc wF := bcD.trans (bDF.mono (by omega))
    have b5F : Below w5.heap.size w5 wF := b5D.trans (bDF.mono (by omega))
    have bBF : Below wB.heap.size wB wF := bBD.trans (bDF.mono (by omega))
    clear g0 g1 g2 hbF D1
    have HCA2 := hid (show wF.cell? ⟨w.heap.size, 0, none⟩ = some (.slice PA s.pairs.length pc) ∧ wF.cell? ⟨w.heap.size, 1, none⟩ = some (.slice QA s.queue.length qc) from ⟨by rw [cell_of_row wF _ 0 _ _ _ D0]; rfl, by rw [cell_of_row wF _ 1 _ _ _ D0]; rfl⟩)
    have HCB2 := hid (show wF.cell? ⟨w3.heap.size, 0, none⟩ = some (.slice PI s.pairs.length pi) ∧ wF.cell? ⟨w3.heap.size, 1, none⟩ = some (.slice QI s.queue.length qi) from ⟨by rw [cell_of_row wF _ 0 _ _ _ D5]; rfl, by rw [cell_of_row wF _ 1 _ _ _ D5]; rfl⟩)
    have HCC := hid (show wF.cell? ⟨p6, 0, none⟩ = some (.slice PX S.pairs.length px) ∧ wF.cell? ⟨p6, 1, none⟩ = some (.slice QX S.queue.length qx) from ⟨by rw [cell_of_row wF _ 0 _ _ _ R6]; rfl, by rw [cell_of_row wF _ 1 _ _ _ R6]; rfl⟩)
    have HCD := hid (show wF.cell? ⟨w5.heap.size, 0, none⟩ = some (.slice PY S.pairs.length py) ∧ wF.cell? ⟨w5.heap.size, 1, none⟩ = some (.slice QY S.queue.length qy) from ⟨by rw [cell_of_row wF _ 0 _ _ _ R8]; rfl, by rw [cell_of_row wF _ 1 _ _ _ R8]; rfl⟩)
    have HCE := hid (show wF.cell? ⟨p7, 0, none⟩ = some (.int .i64 a.code) ∧ wF.cell? ⟨p7, 1, none⟩ = some (.bool a.found) ∧ wF.cell? ⟨p7, 2, none⟩ = some (.string a.value) ∧ wF.cell? ⟨p7, 3, none⟩ = some (.slice RX a.pairs.length rx) ∧ wF.cell? ⟨p7, 4, none⟩ = some (.slice HX a.hits.length hx) ∧ wF.cell? ⟨p7, 5, none⟩ = some (.int .u64 0) from ⟨by rw [cell_of_row wF _ 0 _ _ _ R7]; rfl, by rw [cell_of_row wF _ 1 _ _ _ R7]; rfl, by rw [cell_of_row wF _ 2 _ _ _ R7]; rfl, by rw [cell_of_row wF _ 3 _ _ _ R7]; rfl, by rw [cell_of_row wF _ 4 _ _ _ R7]; rfl, by rw [cell_of_row wF _ 5 _ _ _ R7]; rfl⟩)
    have HCF := hid (show wF.cell? ⟨w5.heap.size + 1, 0, none⟩ = some (.int .i64 a.code) ∧ wF.cell? ⟨w5.heap.size + 1, 1, none⟩ = some (.bool a.found) ∧ wF.cell? ⟨w5.heap.size + 1, 2, none⟩ = some (.string a.value) ∧ wF.cell? ⟨w5.heap.size + 1, 3, none⟩ = some (.slice RY a.pairs.length ry) ∧ wF.cell? ⟨w5.heap.size + 1, 4, none⟩ = some (.slice HY a.hits.length hy) ∧ wF.cell? ⟨w5.heap.size + 1, 5, none⟩ = some (.int .u64 0) from ⟨by rw [cell_of_row wF _ 0 _ _ _ R9]; rfl, by rw [cell_of_row wF _ 1 _ _ _ R9]; rfl, by rw [cell_of_row wF _ 2 _ _ _ R9]; rfl, by rw [cell_of_row wF _ 3 _ _ _ R9]; rfl, by rw [cell_of_row wF _ 4 _ _ _ R9]; rfl, by rw [cell_of_row wF _ 5 _ _ _ R9]; rfl⟩)
    have HXI := hid (fun X (hX : Below wF.heap.size wF X) => in_below (in_below HXO.out.in_ bcF) hX)
    have HYJ := hid (fun X (hX : Below wF.heap.size wF X) => in_below (in_below HYI.out b5F) hX)
    have HCS := hid (fun X (hX : Below wF.heap.size wF X) => same_shelf S PX px QX qx PY py QY qy X (HXI.out X hX) (HYJ.out X hX))
    have HCA := hid (fun X (hX : Below wF.heap.size wF X) => same_ans a RX rx HX hx RY ry HY hy X ((((HRO.out.below bcF).arr Pair.enc_len).below hX).more hX.size) (((HYR.out.below b5F).more b5F.size |>.below hX).more hX.size) ((((HHO.out.below bcF).arr bit_len).below hX).more hX.size) (((HYH.out.below b5F).more b5F.size |>.below hX).more hX.size) HRO.out.len HRO.out.max hry1 hry2 HHO.out.len HHO.out.max hhy1 hhy2)
    have HCM := hid (fun X (hX : Below wF.heap.size wF X) => may_any s PI pi QI s.queue.length qi X (in_below (HIB.out _ bBF) hX).pairs (in_below (HIB.out _ bBF) hX).plen (in_below (HIB.out _ bBF) hX).pmax)
    have HCR := hid (fun X (hX : Below wF.heap.size wF X) => refmay_any s PA pc QA s.queue.length qc X (in_below (in_below H.out bwF) hX).pairs hplen hpmax)
    have HOV := hid (fun X (hX : Below wF.heap.size wF X) => show Calls Try.prog 48 #[.agg #[.slice PX S.pairs.length px, .slice QX S.queue.length qx]] X (fun e w' => e = .returned (.tuple #[]) ∧ Below wB.heap.size wB w') from
      (overShelf_any S lo PX px QX qx X ((HXO.out.below bcF).below hX) (by have := hX.size; have := bcF.size; omega)).mono fun e w' ⟨h1, h2⟩ => ⟨h1, (bBF.trans (hX.mono bBF.size)).trans (h2.mono hlo1)⟩)
    have e1 : (gv.1.toList == gv.1.toList) = true := by simp
    have e2 : (gv.2 != gv.2) = false := by simp
    have e3 : (mayB s.pairs != mayB s.pairs) = false := by simp
    have e4 : (gv.2 == gv.2) = true := by simp
    have e5 : (mayB s.pairs == mayB s.pairs) = true := by simp
    have hl20 : w.heap.size < wF.heap.size ∧ w3.heap.size < wF.heap.size ∧ p6 < wF.heap.size ∧ w5.heap.size < wF.heap.size ∧ p7 < wF.heap.size ∧ w5.heap.size + 1 < wF.heap.size := ⟨by omega, by omega, by omega, by omega, by omega, by omega⟩
    have HL20 := hid hl20
    have hall : wF.cell? ⟨w.heap.size, 0, none⟩ = some (.slice PA s.pairs.length pc) ∧ wF.cell? ⟨w.heap.size, 1, none⟩ = some (.slice QA s.queue.length qc) ∧ wF.cell? ⟨w3.heap.size, 0, none⟩ = some (.slice PI s.pairs.length pi) ∧ wF.cell? ⟨w3.heap.size, 1, none⟩ = some (.slice QI s.queue.length qi) ∧ wF.cell? ⟨p6, 0, none⟩ = some (.slice PX S.pairs.length px) ∧ wF.cell? ⟨p6, 1, none⟩ = some (.slice QX S.queue.length qx) ∧ wF.cell? ⟨w5.heap.size, 0, none⟩ = some (.slice PY S.pairs.length py) ∧ wF.cell? ⟨w5.heap.size, 1, none⟩ = some (.slice QY S.queue.length qy) ∧ wF.cell? ⟨p7, 0, none⟩ = some (.int .i64 a.code) ∧ wF.cell? ⟨p7, 1, none⟩ = some (.bool a.found) ∧ wF.cell? ⟨p7, 2, none⟩ = some (.string a.value) ∧ wF.cell? ⟨p7, 3, none⟩ = some (.slice RX a.pairs.length rx) ∧ wF.cell? ⟨p7, 4, none⟩ = some (.slice HX a.hits.length hx) ∧ wF.cell? ⟨p7, 5, none⟩ = some (.int .u64 0) ∧ wF.cell? ⟨w5.heap.size + 1, 0, none⟩ = some (.int .i64 a.code) ∧ wF.cell? ⟨w5.heap.size + 1, 1, none⟩ = some (.bool a.found) ∧ wF.cell? ⟨w5.heap.size + 1, 2, none⟩ = some (.string a.value) ∧ wF.cell? ⟨w5.heap.size + 1, 3, none⟩ = some (.slice RY a.pairs.length ry) ∧ wF.cell? ⟨w5.heap.size + 1, 4, none⟩ = some (.slice HY a.hits.length hy) ∧ wF.cell? ⟨w5.heap.size + 1, 5, none⟩ = some (.int .u64 0) := ⟨HCA2.out.1, HCA2.out.2, HCB2.out.1, HCB2.out.2, HCC.out.1, HCC.out.2, HCD.out.1, HCD.out.2, HCE.out.1, HCE.out.2.1, HCE.out.2.2.1, HCE.out.2.2.2.1, HCE.out.2.2.2.2.1, HCE.out.2.2.2.2.2, HCF.out.1, HCF.out.2.1, HCF.out.2.2.1, HCF.out.2.2.2.1, HCF.out.2.2.2.2.1, HCF.out.2.2.2.2.2⟩
    have HALL := hid hall
    obtain ⟨hA0, hA1, hB0, hB1, hC0, hC1, hD0, hD1, hE0, hE1, hE2, hE3, hE4, hE5, hF0, hF1, hF2, hF3, hF4, hF5⟩ := hall
    clear hl20
    clear D0 D5 R6 R7 R8 R9 bcD b5D bDE bBD bwD bDF
    go_upto_region 8 with fail
    go_region_held3 (fun W' => W'.cell? ⟨w.heap.size, 0, none⟩ = some (.slice PA s.pairs.length pc) ∧ W'.cell? ⟨w.heap.size, 1, none⟩ = some (.slice QA s.queue.length qc) ∧ W'.cell? ⟨w3.heap.size, 0, none⟩ = some (.slice PI s.pairs.length pi) ∧ W'.cell? ⟨w3.heap.size, 1, none⟩ = some (.slice QI s.queue.length qi) ∧ W'.cell? ⟨p6, 0, none⟩ = some (.slice PX S.pairs.length px) ∧ W'.cell? ⟨p6, 1, none⟩ = some (.slice QX S.queue.length qx) ∧ W'.cell? ⟨w5.heap.size, 0, none⟩ = some (.slice PY S.pairs.length py) ∧ W'.cell? ⟨w5.heap.size, 1, none⟩ = some (.slice QY S.queue.length qy) ∧ W'.cell? ⟨p7, 0, none⟩ = some (.int .i64 a.code) ∧ W'.cell? ⟨p7, 1, none⟩ = some (.bool a.found) ∧ W'.cell? ⟨p7, 2, none⟩ = some (.string a.value) ∧ W'.cell? ⟨p7, 3, none⟩ = some (.slice RX a.pairs.length rx) ∧ W'.cell? ⟨p7, 4, none⟩ = some (.slice HX a.hits.length hx) ∧ W'.cell? ⟨p7, 5, none⟩ = some (.int .u64 0) ∧ W'.cell? ⟨w5.heap.size + 1, 0, none⟩ = some (.int .i64 a.code) ∧ W'.cell? ⟨w5.heap.size + 1, 1, none⟩ = some (.bool a.found) ∧ W'.cell? ⟨w5.heap.size + 1, 2, none⟩ = some (.string a.value) ∧ W'.cell? ⟨w5.heap.size + 1, 3, none⟩ = some (.slice RY a.pairs.length ry) ∧ W'.cell? ⟨w5.heap.size + 1, 4, none⟩ = some (.slice HY a.hits.length hy) ∧ W'.cell? ⟨w5.heap.size + 1, 5, none⟩ = some (.int .u64 0)) (first | exact kept20 (W := wF) (by repeat (first | with_reducible exact Below.refl _ _ | with_reducible assumption | with_reducible refine Below.drew ?_ | with_reducible refine below_drewN ?_ _ | with_reducible refine Below.alloc ?_ (by first | omega | (simp; done) | (simp; omega)) _ | with_reducible refine Below.setCell ?_ (by first | omega | (simp; done) | (simp; omega)) _)) HL20.out HALL.out | go_keep) (first | (go_at_call 27; refine (HCS.out _ ?_).mono ?_; (exact (by repeat (first | with_reducible exact Below.refl _ _ | with_reducible assumption | with_reducible refine Below.drew ?_ | with_reducible refine below_drewN ?_ _ | with_reducible refine Below.alloc ?_ (by first | omega | (simp; done) | (simp; omega)) _ | with_reducible refine Below.setCell ?_ (by first | omega | (simp; done) | (simp; omega)) _))); rintro e wS ⟨rfl, hbS⟩; have stS : Below wF.heap.size wF wS := (by refine Below.trans ?_ (hbS.mono ?_); exact (by repeat (first | with_reducible exact Below.refl _ _ | with_reducible assumption | with_reducible refine Below.drew ?_ | with_reducible refine below_drewN ?_ _ | with_reducible refine Below.alloc ?_ (by first | omega | (simp; done) | (simp; omega)) _ | with_reducible refine Below.setCell ?_ (by first | omega | (simp; done) | (simp; omega)) _)); (first | exact Nat.le_refl _ | (simp; done) | exact stR.size | exact stM.size | exact stN.size))) | (go_at_call 45; refine (HCA.out _ ?_).mono ?_; (exact (by repeat (first | with_reducible exact Below.refl _ _ | with_reducible assumption | with_reducible refine Below.drew ?_ | with_reducible refine below_drewN ?_ _ | with_reducible refine Below.alloc ?_ (by first | omega | (simp; done) | (simp; omega)) _ | with_reducible refine Below.setCell ?_ (by first | omega | (simp; done) | (simp; omega)) _))); rintro e wN ⟨rfl, hbN⟩; have stN : Below wF.heap.size wF wN := (by refine Below.trans ?_ (hbN.mono ?_); exact (by repeat (first | with_reducible exact Below.refl _ _ | with_reducible assumption | with_reducible refine Below.drew ?_ | with_reducible refine below_drewN ?_ _ | with_reducible refine Below.alloc ?_ (by first | omega | (simp; done) | (simp; omega)) _ | with_reducible refine Below.setCell ?_ (by first | omega | (simp; done) | (simp; omega)) _)); (first | exact Nat.le_refl _ | (simp; done) | exact stR.size | exact stM.size | exact stS.size))) | (go_at_call 46; refine (HCM.out _ ?_).mono ?_; (exact (by repeat (first | with_reducible exact Below.refl _ _ | with_reducible assumption | with_reducible refine Below.drew ?_ | with_reducible refine below_drewN ?_ _ | with_reducible refine Below.alloc ?_ (by first | omega | (simp; done) | (simp; omega)) _ | with_reducible refine Below.setCell ?_ (by first | omega | (simp; done) | (simp; omega)) _))); rintro e wM ⟨rfl, hbM⟩; have stM : Below wF.heap.size wF wM := (by refine Below.trans ?_ (hbM.mono ?_); exact (by repeat (first | with_reducible exact Below.refl _ _ | with_reducible assumption | with_reducible refine Below.drew ?_ | with_reducible refine below_drewN ?_ _ | with_reducible refine Below.alloc ?_ (by first | omega | (simp; done) | (simp; omega)) _ | with_reducible refine Below.setCell ?_ (by first | omega | (simp; done) | (simp; omega)) _)); (first | exact Nat.le_refl _ | (simp; done) | exact stR.size | exact stN.size | exact stS.size))) | (go_at_call 47; refine (HCR.out _ ?_).mono ?_; (exact (by repeat (first | with_reducible exact Below.refl _ _ | with_reducible assumption | with_reducible refine Below.drew ?_ | with_reducible refine below_drewN ?_ _ | with_reducible refine Below.alloc ?_ (by first | omega | (simp; done) | (simp; omega)) _ | with_reducible refine Below.setCell ?_ (by first | omega | (simp; done) | (simp; omega)) _))); rintro e wR ⟨rfl, hbR⟩; have stR : Below wF.heap.size wF wR := (by refine Below.trans ?_ (hbR.mono ?_); exact (by repeat (first | with_reducible exact Below.refl _ _ | with_reducible assumption | with_reducible refine Below.drew ?_ | with_reducible refine below_drewN ?_ _ | with_reducible refine Below.alloc ?_ (by first | omega | (simp; done) | (simp; omega)) _ | with_reducible refine Below.setCell ?_ (by first | omega | (simp; done) | (simp; omega)) _)); (first | exact Nat.le_refl _ | (simp; done) | exact stM.size | exact stN.size | exact stS.size))))
    go_wp2_with fail
    refine (HOV.out _ ?_).mono ?_
    · exact (by repeat (first | with_reducible exact Below.refl _ _ | with_reducible assumption | with_reducible refine Below.drew ?_ | with_reducible refine below_drewN ?_ _ | with_reducible refine Below.alloc ?_ (by first | omega | (simp; done) | (simp; omega)) _ | with_reducible refine Below.setCell ?_ (by first | omega | (simp; done) | (simp; omega)) _))
    rintro e wO ⟨rfl, hbO⟩
    have zO := hbO.size
    have E0 := (hbO.block _ (by omega)).trans HDD.out.1
    have E5 := (hbO.block _ (by omega)).trans HDD.out.2.2
    have bwO : Below w.heap.size w wO := HBB.out.trans (hbO.mono HBB.out.size)
    have o0 := cell_of_row wO _ 0 _ _ _ E0
    have o1 := cell_of_row wO _ 1 _ _ _ E0
    have j0 := cell_of_row wO _ 0 _ _ _ E5
    have j1 := cell_of_row wO _ 1 _ _ _ E5
    have hI := HIB.out _ hbO
    have hS := HSB.out _ hbO
    have HI1 := hid hI
    have HS1 := hid hS
    clear hI hS E0 E5
    go_wp2_with fail
    refine (same_shelf s PI pi QI qi PA pc QA qc _ HI1.out HS1.out).mono ?_
    rintro e wP ⟨rfl, hbP⟩
    have bwP : Below w.heap.size w wP := bwO.trans (hbP.mono bwO.size)
    go_wp2_with fail
    refine (awake15 _).mono ?_
    rintro e wZ ⟨rfl, hbZ⟩
    go_wp2
    go_ret
    exact ⟨rfl, bwP.trans (hbZ.mono bwP.size)⟩
end Go.Proofs.Ythpegmeebhkhbaa
namespace Go.Proofs.Ythpegmeebhkhbaa
open Go.ChangeShapes Go.WideShapes Go.ChangeAt Go.RowKit
open Go.ChangeMaps (open_string)
set_option maxRecDepth 100000 in
theorem idealApplies_walk : Walk 12 Try.f12 := by
  intro H enc W base args ds p hval hA
  have hA' : DataW.TrodAll enc Try.prog W 0 (fun _ => true) true Try.f12.params.toList args.toList ds p := hA
  clear hA
  rw [Try.params12] at hA' hval
  obtain ⟨v0, vs0, d0, ds0, p0, q0, hargs, rfl, rfl, h0, r0⟩ := trodAll_cons hA'
  obtain ⟨v1, vs1, d1, ds1, p1, q1, rfl, rfl, rfl, h1, r1⟩ := trodAll_cons r0
  obtain ⟨rfl, rfl, rfl⟩ := trodAll_nil r1
  obtain rfl : args = #[v0, v1] := by cases args; simp_all
  obtain ⟨s0, PA0, pc0, QA0, qc0, rfl, hs0⟩ := open_shelf (hval 0 41 v0 rfl rfl) h0
  obtain ⟨c1, g1, rfl, hc1, he1⟩ := open_call_deep (hval 1 50 v1 rfl rfl) h1
  exact idealApplies_any s0 PA0 pc0 QA0 qc0 c1 g1 W hs0 hc1 he1
set_option maxRecDepth 100000 in
theorem idealApplies_lifted (os : Os) (started : os.Started) (H : Type) (enc : TypeId × Value → H) :
    ReturnsInHanded {} Try.checked os 12 .any (Rows.idealAppliesSpec.pre6 enc Try.prog Try.f12 Rows.idealAppliesRow.domain false) (Rows.idealAppliesSpec.post enc Try.prog Try.f12 false true false false) :=
  lifted_of_walk started idealApplies_walk (by kernel_rfl) Try.func12 rfl rfl (by kernel_rfl)
    (fun ds h => match ds, h with | [d1, d2], _ => rfl)
    (ChangeSpec.witness6 (enc := enc) (C := Try.checked) false ⟨#[], #[.agg #[.slice none 0 0, .slice none 0 0], .agg #[.int .i64 0, .string ByteArray.empty, .string ByteArray.empty, .string ByteArray.empty, .slice none 0 0]], []⟩ 8 (by kernel_rfl) (by kernel_rfl) (by kernel_rfl) (by kernel_rfl))
theorem idealApplies_holds : Rows.IdealAppliesSaid :=
  OpenClaim.holds_of_wide 12 Try.f12 rfl rfl rfl rfl rfl rfl rfl ⟨rfl, rfl, rfl, rfl, rfl⟩ rfl rfl rfl rfl rfl (by kernel_rfl) Try.func12 (by kernel_rfl)
    (of_decide_eq_true (by kernel_rfl)) (by unfold Func.isWrapper; first | (rw [if_pos (by decide +kernel)]; kernel_rfl) | (rw [if_neg (by decide +kernel)]; exact ⟨rfl, rfl⟩))
    (fun os started H enc _ => idealApplies_lifted os started H enc)
end Go.Proofs.Ythpegmeebhkhbaa
