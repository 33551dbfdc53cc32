/- The reference's Apply: put, del, enq, deq. -/
/- The reference's Apply: bad calls, get, sync. -/
import Derived.Test.YtamcehfcjcmpmaaGreatDoorZref
namespace Go.Proofs.YtamcehfcjcmpmaaGreatDoor
open Go.RowKit

/-- what the reference's Apply gives: a store that is new or the one that was handed in, an answer -/
def GivesRA (PA0 QA0 : Option Addr) (s0 S : Shelf) (a : Ans) (w : World) (e : Ending) (w' : World) : Prop :=
  ∃ PA pc QA qc RA rc HA hc, e = .returned (.tuple #[.agg #[.slice PA S.pairs.length pc, .slice QA S.queue.length qc], .agg #[.int .i64 a.code, .bool a.found, .string a.value, .slice RA a.pairs.length rc, .slice HA a.hits.length hc, .int .u64 0]]) ∧
    ShIn w' w'.heap.size PA pc QA qc S ∧ ((LowL w.heap.size PA S.pairs ∧ LowL w.heap.size QA S.queue) ∨ (PA = PA0 ∧ QA = QA0 ∧ S = s0)) ∧ Arr Pair.enc 2 w' w'.heap.size RA a.pairs ∧ a.pairs.length ≤ rc ∧ rc ≤ 9223372036854775807 ∧ Arr bit 1 w' w'.heap.size HA a.hits ∧ a.hits.length ≤ hc ∧ hc ≤ 9223372036854775807 ∧ Below w.heap.size w w'
theorem heap_newR {W : World} {o : Obj} {n : Nat} (h : n = W.heap.size) : (W.alloc o).heap[n]? = some o := by rw [heap_alloc_if, if_pos h]
theorem heap_setO {W : World} {b i n : Nat} {v : Value} (h : n ≠ b) : (W.setCell ⟨b, i, none⟩ v).heap[n]? = W.heap[n]? := Below.heap_setCell _ _ _ _ h
theorem ShIn.dr' {w : World} {B : Nat} {PA : Option Addr} {pc : Nat} {QA : Option Addr} {qc : Nat} {s : Shelf} (h : ShIn w B PA pc QA qc s) : ShIn w.drew B PA pc QA qc s := h.below (Below.refl B w).drew
theorem ShIn.lowCell' {w : World} {B lo b i : Nat} {PA : Option Addr} {pc : Nat} {QA : Option Addr} {qc : Nat} {s : Shelf} (h : ShIn w B PA pc QA qc s) (hl : LowL lo PA s.pairs ∧ LowL lo QA s.queue) (hp : b < lo) (u : Value) : ShIn (w.setCell ⟨b, i, none⟩ u) B PA pc QA qc s := h.lowCell hl hp u

set_option maxHeartbeats 4000000 in
set_option maxRecDepth 100000 in
theorem refap_bad1 (s : Shelf) (PA : Option Addr) (pc : Nat) (QA : Option Addr) (qc : Nat) (key val to' : ByteArray) (gA : Option Addr) (gn gc : Nat) (g : List Call0) (w : World) (h : ShIn w w.heap.size PA pc QA qc s) (hp : s.pairs.length ≤ 90000) (hq : s.queue.length ≤ 90000) (kind : Int) (hc : CallIn w w.heap.size ⟨kind, key, val, to', gA, gn, gc⟩ g) (hgood : goodI ⟨kind, key, val, to', gA, gn, gc⟩ g = 1) :
    Calls Tryz.prog 30 #[.agg #[.slice PA s.pairs.length pc, .slice QA s.queue.length qc], .agg #[.int .i64 kind, .string key, .string val, .string to', .slice gA gn gc]] w (GivesRA PA QA s s (ans0 1) w) := by
  have H := hid h
  have HC := hid hc
  have HG := hid hgood
  have HP := hid hp
  have HQ := hid hq
  have hplen := h.plen
  have hpmax := h.pmax
  have hqlen := h.qlen
  have hqmax := h.qmax
  clear h hc hgood hp hq
  go_enter Tryz.func30, Tryz.ntmps30
  go_wp2_with fail
  refine (refgood_any ⟨kind, key, val, to', gA, gn, gc⟩ g _ ((HC.out.below (by repeat (first | exact Below.refl _ _ | assumption | refine Below.drew ?_ | refine below_drewN ?_ _ | refine Below.alloc ?_ (by first | omega | (simp; done) | (simp; omega)) _ | refine Below.setCell ?_ (by first | omega | (simp; done) | (simp; omega)) _))).more (by first | omega | (simp; done) | (simp; omega)))).mono ?_
  rintro e w1 ⟨rfl, hb1⟩
  rw [HG.out]
  have z1 := hb1.size
  simp only [World.size_alloc] at z1
  have bw1 : Below w.heap.size w w1 := Below.trans (by repeat (first | exact Below.refl _ _ | assumption | refine Below.drew ?_ | refine below_drewN ?_ _ | refine Below.alloc ?_ (by first | omega | (simp; done) | (simp; omega)) _ | refine Below.setCell ?_ (by first | omega | (simp; done) | (simp; omega)) _)) (hb1.mono (show w.heap.size ≤ _ from (by first | omega | (simp; done) | (simp; omega))))
  have B0 : w1.heap[w.heap.size]? = some (.cells #[.slice PA s.pairs.length pc, .slice QA s.queue.length qc] 25 (0, 0)) := (hb1.block _ (by first | (simp; done) | (simp; omega))).trans (by repeat (first | with_reducible exact heap_newR (by first | omega | (simp; done) | (simp; omega)) | exact heap_newR (by first | omega | (simp; done) | (simp; omega)) | (with_reducible refine (Below.heap_alloc _ _ _ ?_).trans ?_; exact (by first | omega | (simp; done) | (simp; omega)))))
  have B1 : w1.heap[w.heap.size + 1]? = some (.cells #[.int .i64 kind, .string key, .string val, .string to', .slice gA gn gc] 46 (0, 0)) := (hb1.block _ (by first | (simp; done) | (simp; omega))).trans (by repeat (first | with_reducible exact heap_newR (by first | omega | (simp; done) | (simp; omega)) | exact heap_newR (by first | omega | (simp; done) | (simp; omega)) | (with_reducible refine (Below.heap_alloc _ _ _ ?_).trans ?_; exact (by first | omega | (simp; done) | (simp; omega)))))
  have B2 : w1.heap[w.heap.size + 1 + 1]? = some (.cells #[.slice none 0 0, .slice none 0 0] 25 (0, 0)) := (hb1.block _ (by first | (simp; done) | (simp; omega))).trans (by repeat (first | with_reducible exact heap_newR (by first | omega | (simp; done) | (simp; omega)) | exact heap_newR (by first | omega | (simp; done) | (simp; omega)) | (with_reducible refine (Below.heap_alloc _ _ _ ?_).trans ?_; exact (by first | omega | (simp; done) | (simp; omega)))))
  have B3 : w1.heap[w.heap.size + 1 + 1 + 1]? = some (.cells #[.int .i64 0, .bool false, .string ByteArray.empty, .slice none 0 0, .slice none 0 0, .int .u64 0] 50 (0, 0)) := (hb1.block _ (by first | (simp; done) | (simp; omega))).trans (by repeat (first | with_reducible exact heap_newR (by first | omega | (simp; done) | (simp; omega)) | exact heap_newR (by first | omega | (simp; done) | (simp; omega)) | (with_reducible refine (Below.heap_alloc _ _ _ ?_).trans ?_; exact (by first | omega | (simp; done) | (simp; omega)))))
  have B4 : w1.heap[w.heap.size + 1 + 1 + 1 + 1]? = some (.cells #[.int .i64 0, .bool false, .string ByteArray.empty, .slice none 0 0, .slice none 0 0, .int .u64 0] 50 (0, 0)) := (hb1.block _ (by first | (simp; done) | (simp; omega))).trans (by repeat (first | with_reducible exact heap_newR (by first | omega | (simp; done) | (simp; omega)) | exact heap_newR (by first | omega | (simp; done) | (simp; omega)) | (with_reducible refine (Below.heap_alloc _ _ _ ?_).trans ?_; exact (by first | omega | (simp; done) | (simp; omega)))))
  clear hb1
  have s0 := cell_of_row w1 _ 0 _ _ _ B0
  have s1 := cell_of_row w1 _ 1 _ _ _ B0
  have fs0 := frozen_of_row w1 _ 0 _ _ B0
  have fs1 := frozen_of_row w1 _ 1 _ _ B0
  have k0 := cell_of_row w1 _ 0 _ _ _ B1
  have k1 := cell_of_row w1 _ 1 _ _ _ B1
  have k2 := cell_of_row w1 _ 2 _ _ _ B1
  have k3 := cell_of_row w1 _ 3 _ _ _ B1
  have k4 := cell_of_row w1 _ 4 _ _ _ B1
  have r0 := cell_of_row w1 _ 0 _ _ _ B2
  have r1 := cell_of_row w1 _ 1 _ _ _ B2
  have fr0 := frozen_of_row w1 _ 0 _ _ B2
  have fr1 := frozen_of_row w1 _ 1 _ _ B2
  have q0 := cell_of_row w1 _ 0 _ _ _ B3
  have q1 := cell_of_row w1 _ 1 _ _ _ B3
  have q2 := cell_of_row w1 _ 2 _ _ _ B3
  have q3 := cell_of_row w1 _ 3 _ _ _ B3
  have q4 := cell_of_row w1 _ 4 _ _ _ B3
  have q5 := cell_of_row w1 _ 5 _ _ _ B3
  have fq0 := frozen_of_row w1 _ 0 _ _ B3
  have fq1 := frozen_of_row w1 _ 1 _ _ B3
  have fq2 := frozen_of_row w1 _ 2 _ _ B3
  have fq3 := frozen_of_row w1 _ 3 _ _ B3
  have fq4 := frozen_of_row w1 _ 4 _ _ B3
  have fq5 := frozen_of_row w1 _ 5 _ _ B3
  have a0 := cell_of_row w1 _ 0 _ _ _ B4
  have a1 := cell_of_row w1 _ 1 _ _ _ B4
  have a2 := cell_of_row w1 _ 2 _ _ _ B4
  have a3 := cell_of_row w1 _ 3 _ _ _ B4
  have a4 := cell_of_row w1 _ 4 _ _ _ B4
  have a5 := cell_of_row w1 _ 5 _ _ _ B4
  have fa0 := frozen_of_row w1 _ 0 _ _ B4
  have fa1 := frozen_of_row w1 _ 1 _ _ B4
  have fa2 := frozen_of_row w1 _ 2 _ _ B4
  have fa3 := frozen_of_row w1 _ 3 _ _ B4
  have fa4 := frozen_of_row w1 _ 4 _ _ B4
  have fa5 := frozen_of_row w1 _ 5 _ _ B4
  simp only [List.getElem?_toArray, List.getElem?_cons_zero, List.getElem?_cons_succ] at s0 s1 k0 k1 k2 k3 k4 r0 r1 q0 q1 q2 q3 q4 q5 a0 a1 a2 a3 a4 a5
  have l0 : w.heap.size < w1.heap.size := by omega
  have l1 : w.heap.size + 1 < w1.heap.size := by omega
  have l2 : w.heap.size + 1 + 1 < w1.heap.size := by omega
  have l3 : w.heap.size + 1 + 1 + 1 < w1.heap.size := by omega
  have l4 : w.heap.size + 1 + 1 + 1 + 1 < w1.heap.size := by omega
  go_upto_region 5 with fail
  obtain ⟨w2, hw2⟩ : ∃ w2, w2 = w1.setCell ⟨w.heap.size + 1 + 1 + 1 + 1, 0, none⟩ (.int .i64 1) := ⟨_, rfl⟩
  rw [← hw2]
  have zw2 : w2.heap.size = w1.heap.size := by rw [hw2]; simp [World.setCell]
  have bw2 : Below w.heap.size w w2 := by rw [hw2]; exact (bw1.setCell (by show w.heap.size ≤ w.heap.size + 1 + 1 + 1 + 1; omega) _)
  replace B0 : w2.heap[w.heap.size]? = some (.cells #[.slice PA s.pairs.length pc, .slice QA s.queue.length qc] 25 (0, 0)) := by
    rw [hw2]
    refine (heap_setO (by omega)).trans ?_
    exact B0
  replace B1 : w2.heap[w.heap.size + 1]? = some (.cells #[.int .i64 kind, .string key, .string val, .string to', .slice gA gn gc] 46 (0, 0)) := by
    rw [hw2]
    refine (heap_setO (by omega)).trans ?_
    exact B1
  replace B2 : w2.heap[w.heap.size + 1 + 1]? = some (.cells #[.slice none 0 0, .slice none 0 0] 25 (0, 0)) := by
    rw [hw2]
    refine (heap_setO (by omega)).trans ?_
    exact B2
  replace B3 : w2.heap[w.heap.size + 1 + 1 + 1]? = some (.cells #[.int .i64 0, .bool false, .string ByteArray.empty, .slice none 0 0, .slice none 0 0, .int .u64 0] 50 (0, 0)) := by
    rw [hw2]
    refine (heap_setO (by omega)).trans ?_
    exact B3
  replace B4 : w2.heap[w.heap.size + 1 + 1 + 1 + 1]? = some (.cells #[.int .i64 1, .bool false, .string ByteArray.empty, .slice none 0 0, .slice none 0 0, .int .u64 0] 50 (0, 0)) := by
    rw [hw2]
    have e0 := B4
    have e1 := heap_setCell_same _ (w.heap.size + 1 + 1 + 1 + 1) 0 _ _ (.int .i64 1) e0
    exact e1
  clear hw2
  clear s0 s1 fs0 fs1 k0 k1 k2 k3 k4 r0 r1 fr0 fr1 q0 q1 q2 q3 q4 q5 fq0 fq1 fq2 fq3 fq4 fq5 a0 a1 a2 a3 a4 a5 fa0 fa1 fa2 fa3 fa4 fa5 l0 l1 l2 l3 l4
  have s0 := cell_of_row w2 _ 0 _ _ _ B0
  have s1 := cell_of_row w2 _ 1 _ _ _ B0
  have fs0 := frozen_of_row w2 _ 0 _ _ B0
  have fs1 := frozen_of_row w2 _ 1 _ _ B0
  have k0 := cell_of_row w2 _ 0 _ _ _ B1
  have k1 := cell_of_row w2 _ 1 _ _ _ B1
  have k2 := cell_of_row w2 _ 2 _ _ _ B1
  have k3 := cell_of_row w2 _ 3 _ _ _ B1
  have k4 := cell_of_row w2 _ 4 _ _ _ B1
  have r0 := cell_of_row w2 _ 0 _ _ _ B2
  have r1 := cell_of_row w2 _ 1 _ _ _ B2
  have fr0 := frozen_of_row w2 _ 0 _ _ B2
  have fr1 := frozen_of_row w2 _ 1 _ _ B2
  have q0 := cell_of_row w2 _ 0 _ _ _ B3
  have q1 := cell_of_row w2 _ 1 _ _ _ B3
  have q2 := cell_of_row w2 _ 2 _ _ _ B3
  have q3 := cell_of_row w2 _ 3 _ _ _ B3
  have q4 := cell_of_row w2 _ 4 _ _ _ B3
  have q5 := cell_of_row w2 _ 5 _ _ _ B3
  have fq0 := frozen_of_row w2 _ 0 _ _ B3
  have fq1 := frozen_of_row w2 _ 1 _ _ B3
  have fq2 := frozen_of_row w2 _ 2 _ _ B3
  have fq3 := frozen_of_row w2 _ 3 _ _ B3
  have fq4 := frozen_of_row w2 _ 4 _ _ B3
  have fq5 := frozen_of_row w2 _ 5 _ _ B3
  have a0 := cell_of_row w2 _ 0 _ _ _ B4
  have a1 := cell_of_row w2 _ 1 _ _ _ B4
  have a2 := cell_of_row w2 _ 2 _ _ _ B4
  have a3 := cell_of_row w2 _ 3 _ _ _ B4
  have a4 := cell_of_row w2 _ 4 _ _ _ B4
  have a5 := cell_of_row w2 _ 5 _ _ _ B4
  have fa0 := frozen_of_row w2 _ 0 _ _ B4
  have fa1 := frozen_of_row w2 _ 1 _ _ B4
  have fa2 := frozen_of_row w2 _ 2 _ _ B4
  have fa3 := frozen_of_row w2 _ 3 _ _ B4
  have fa4 := frozen_of_row w2 _ 4 _ _ B4
  have fa5 := frozen_of_row w2 _ 5 _ _ B4
  simp only [List.getElem?_toArray, List.getElem?_cons_zero, List.getElem?_cons_succ] at s0 s1 k0 k1 k2 k3 k4 r0 r1 q0 q1 q2 q3 q4 q5 a0 a1 a2 a3 a4 a5
  have l0 : w.heap.size < w2.heap.size := by omega
  have l1 : w.heap.size + 1 < w2.heap.size := by omega
  have l2 : w.heap.size + 1 + 1 < w2.heap.size := by omega
  have l3 : w.heap.size + 1 + 1 + 1 < w2.heap.size := by omega
  have l4 : w.heap.size + 1 + 1 + 1 + 1 < w2.heap.size := by omega
  go_region
  all_goals
    go_wp2_with fail
    refine bodyPost_ret (v := .tuple #[.agg #[.slice PA s.pairs.length pc, .slice QA s.queue.length qc], .agg #[.int .i64 1, .bool false, .string ByteArray.empty, .slice none 0 0, .slice none 0 0, .int .u64 0]]) (by simp [results, Tryz.results30, go_sem, r0, r1, q0, q1, q2, q3, q4, q5]) rfl ⟨PA, pc, QA, qc, none, 0, none, 0, rfl, ?_, .inr ⟨rfl, rfl, rfl⟩, Arr.nil, Nat.le_refl _, by omega, Arr.nil, Nat.le_refl _, by omega, ?_⟩
    · exact in_below H.out (by repeat (first | with_reducible exact Below.refl _ _ | with_reducible assumption | with_reducible refine Below.drew ?_ | with_reducible refine below_drewN ?_ _ | with_reducible refine Below.alloc ?_ (by first | omega | (simp; done) | (simp; omega)) _ | with_reducible refine Below.setCell ?_ (by first | omega | (simp; done) | (simp; omega)) _))
    · exact (by repeat (first | with_reducible exact Below.refl _ _ | with_reducible assumption | with_reducible refine Below.drew ?_ | with_reducible refine below_drewN ?_ _ | with_reducible refine Below.alloc ?_ (by first | omega | (simp; done) | (simp; omega)) _ | with_reducible refine Below.setCell ?_ (by first | omega | (simp; done) | (simp; omega)) _))
set_option maxHeartbeats 4000000 in
set_option maxRecDepth 100000 in
theorem refap_bad5 (s : Shelf) (PA : Option Addr) (pc : Nat) (QA : Option Addr) (qc : Nat) (key val to' : ByteArray) (gA : Option Addr) (gn gc : Nat) (g : List Call0) (w : World) (h : ShIn w w.heap.size PA pc QA qc s) (hp : s.pairs.length ≤ 90000) (hq : s.queue.length ≤ 90000) (kind : Int) (hc : CallIn w w.heap.size ⟨kind, key, val, to', gA, gn, gc⟩ g) (hgood : goodI ⟨kind, key, val, to', gA, gn, gc⟩ g = 5) :
    Calls Tryz.prog 30 #[.agg #[.slice PA s.pairs.length pc, .slice QA s.queue.length qc], .agg #[.int .i64 kind, .string key, .string val, .string to', .slice gA gn gc]] w (GivesRA PA QA s s (ans0 5) w) := by
  have H := hid h
  have HC := hid hc
  have HG := hid hgood
  have HP := hid hp
  have HQ := hid hq
  have hplen := h.plen
  have hpmax := h.pmax
  have hqlen := h.qlen
  have hqmax := h.qmax
  clear h hc hgood hp hq
  go_enter Tryz.func30, Tryz.ntmps30
  go_wp2_with fail
  refine (refgood_any ⟨kind, key, val, to', gA, gn, gc⟩ g _ ((HC.out.below (by repeat (first | exact Below.refl _ _ | assumption | refine Below.drew ?_ | refine below_drewN ?_ _ | refine Below.alloc ?_ (by first | omega | (simp; done) | (simp; omega)) _ | refine Below.setCell ?_ (by first | omega | (simp; done) | (simp; omega)) _))).more (by first | omega | (simp; done) | (simp; omega)))).mono ?_
  rintro e w1 ⟨rfl, hb1⟩
  rw [HG.out]
  have z1 := hb1.size
  simp only [World.size_alloc] at z1
  have bw1 : Below w.heap.size w w1 := Below.trans (by repeat (first | exact Below.refl _ _ | assumption | refine Below.drew ?_ | refine below_drewN ?_ _ | refine Below.alloc ?_ (by first | omega | (simp; done) | (simp; omega)) _ | refine Below.setCell ?_ (by first | omega | (simp; done) | (simp; omega)) _)) (hb1.mono (show w.heap.size ≤ _ from (by first | omega | (simp; done) | (simp; omega))))
  have B0 : w1.heap[w.heap.size]? = some (.cells #[.slice PA s.pairs.length pc, .slice QA s.queue.length qc] 25 (0, 0)) := (hb1.block _ (by first | (simp; done) | (simp; omega))).trans (by repeat (first | with_reducible exact heap_newR (by first | omega | (simp; done) | (simp; omega)) | exact heap_newR (by first | omega | (simp; done) | (simp; omega)) | (with_reducible refine (Below.heap_alloc _ _ _ ?_).trans ?_; exact (by first | omega | (simp; done) | (simp; omega)))))
  have B1 : w1.heap[w.heap.size + 1]? = some (.cells #[.int .i64 kind, .string key, .string val, .string to', .slice gA gn gc] 46 (0, 0)) := (hb1.block _ (by first | (simp; done) | (simp; omega))).trans (by repeat (first | with_reducible exact heap_newR (by first | omega | (simp; done) | (simp; omega)) | exact heap_newR (by first | omega | (simp; done) | (simp; omega)) | (with_reducible refine (Below.heap_alloc _ _ _ ?_).trans ?_; exact (by first | omega | (simp; done) | (simp; omega)))))
  have B2 : w1.heap[w.heap.size + 1 + 1]? = some (.cells #[.slice none 0 0, .slice none 0 0] 25 (0, 0)) := (hb1.block _ (by first | (simp; done) | (simp; omega))).trans (by repeat (first | with_reducible exact heap_newR (by first | omega | (simp; done) | (simp; omega)) | exact heap_newR (by first | omega | (simp; done) | (simp; omega)) | (with_reducible refine (Below.heap_alloc _ _ _ ?_).trans ?_; exact (by first | omega | (simp; done) | (simp; omega)))))
  have B3 : w1.heap[w.heap.size + 1 + 1 + 1]? = some (.cells #[.int .i64 0, .bool false, .string ByteArray.empty, .slice none 0 0, .slice none 0 0, .int .u64 0] 50 (0, 0)) := (hb1.block _ (by first | (simp; done) | (simp; omega))).trans (by repeat (first | with_reducible exact heap_newR (by first | omega | (simp; done) | (simp; omega)) | exact heap_newR (by first | omega | (simp; done) | (simp; omega)) | (with_reducible refine (Below.heap_alloc _ _ _ ?_).trans ?_; exact (by first | omega | (simp; done) | (simp; omega)))))
  have B4 : w1.heap[w.heap.size + 1 + 1 + 1 + 1]? = some (.cells #[.int .i64 0, .bool false, .string ByteArray.empty, .slice none 0 0, .slice none 0 0, .int .u64 0] 50 (0, 0)) := (hb1.block _ (by first | (simp; done) | (simp; omega))).trans (by repeat (first | with_reducible exact heap_newR (by first | omega | (simp; done) | (simp; omega)) | exact heap_newR (by first | omega | (simp; done) | (simp; omega)) | (with_reducible refine (Below.heap_alloc _ _ _ ?_).trans ?_; exact (by first | omega | (simp; done) | (simp; omega)))))
  clear hb1
  have s0 := cell_of_row w1 _ 0 _ _ _ B0
  have s1 := cell_of_row w1 _ 1 _ _ _ B0
  have fs0 := frozen_of_row w1 _ 0 _ _ B0
  have fs1 := frozen_of_row w1 _ 1 _ _ B0
  have k0 := cell_of_row w1 _ 0 _ _ _ B1
  have k1 := cell_of_row w1 _ 1 _ _ _ B1
  have k2 := cell_of_row w1 _ 2 _ _ _ B1
  have k3 := cell_of_row w1 _ 3 _ _ _ B1
  have k4 := cell_of_row w1 _ 4 _ _ _ B1
  have r0 := cell_of_row w1 _ 0 _ _ _ B2
  have r1 := cell_of_row w1 _ 1 _ _ _ B2
  have fr0 := frozen_of_row w1 _ 0 _ _ B2
  have fr1 := frozen_of_row w1 _ 1 _ _ B2
  have q0 := cell_of_row w1 _ 0 _ _ _ B3
  have q1 := cell_of_row w1 _ 1 _ _ _ B3
  have q2 := cell_of_row w1 _ 2 _ _ _ B3
  have q3 := cell_of_row w1 _ 3 _ _ _ B3
  have q4 := cell_of_row w1 _ 4 _ _ _ B3
  have q5 := cell_of_row w1 _ 5 _ _ _ B3
  have fq0 := frozen_of_row w1 _ 0 _ _ B3
  have fq1 := frozen_of_row w1 _ 1 _ _ B3
  have fq2 := frozen_of_row w1 _ 2 _ _ B3
  have fq3 := frozen_of_row w1 _ 3 _ _ B3
  have fq4 := frozen_of_row w1 _ 4 _ _ B3
  have fq5 := frozen_of_row w1 _ 5 _ _ B3
  have a0 := cell_of_row w1 _ 0 _ _ _ B4
  have a1 := cell_of_row w1 _ 1 _ _ _ B4
  have a2 := cell_of_row w1 _ 2 _ _ _ B4
  have a3 := cell_of_row w1 _ 3 _ _ _ B4
  have a4 := cell_of_row w1 _ 4 _ _ _ B4
  have a5 := cell_of_row w1 _ 5 _ _ _ B4
  have fa0 := frozen_of_row w1 _ 0 _ _ B4
  have fa1 := frozen_of_row w1 _ 1 _ _ B4
  have fa2 := frozen_of_row w1 _ 2 _ _ B4
  have fa3 := frozen_of_row w1 _ 3 _ _ B4
  have fa4 := frozen_of_row w1 _ 4 _ _ B4
  have fa5 := frozen_of_row w1 _ 5 _ _ B4
  simp only [List.getElem?_toArray, List.getElem?_cons_zero, List.getElem?_cons_succ] at s0 s1 k0 k1 k2 k3 k4 r0 r1 q0 q1 q2 q3 q4 q5 a0 a1 a2 a3 a4 a5
  have l0 : w.heap.size < w1.heap.size := by omega
  have l1 : w.heap.size + 1 < w1.heap.size := by omega
  have l2 : w.heap.size + 1 + 1 < w1.heap.size := by omega
  have l3 : w.heap.size + 1 + 1 + 1 < w1.heap.size := by omega
  have l4 : w.heap.size + 1 + 1 + 1 + 1 < w1.heap.size := by omega
  go_upto_region 5 with fail
  obtain ⟨w2, hw2⟩ : ∃ w2, w2 = w1.setCell ⟨w.heap.size + 1 + 1 + 1 + 1, 0, none⟩ (.int .i64 5) := ⟨_, rfl⟩
  rw [← hw2]
  have zw2 : w2.heap.size = w1.heap.size := by rw [hw2]; simp [World.setCell]
  have bw2 : Below w.heap.size w w2 := by rw [hw2]; exact (bw1.setCell (by show w.heap.size ≤ w.heap.size + 1 + 1 + 1 + 1; omega) _)
  replace B0 : w2.heap[w.heap.size]? = some (.cells #[.slice PA s.pairs.length pc, .slice QA s.queue.length qc] 25 (0, 0)) := by
    rw [hw2]
    refine (heap_setO (by omega)).trans ?_
    exact B0
  replace B1 : w2.heap[w.heap.size + 1]? = some (.cells #[.int .i64 kind, .string key, .string val, .string to', .slice gA gn gc] 46 (0, 0)) := by
    rw [hw2]
    refine (heap_setO (by omega)).trans ?_
    exact B1
  replace B2 : w2.heap[w.heap.size + 1 + 1]? = some (.cells #[.slice none 0 0, .slice none 0 0] 25 (0, 0)) := by
    rw [hw2]
    refine (heap_setO (by omega)).trans ?_
    exact B2
  replace B3 : w2.heap[w.heap.size + 1 + 1 + 1]? = some (.cells #[.int .i64 0, .bool false, .string ByteArray.empty, .slice none 0 0, .slice none 0 0, .int .u64 0] 50 (0, 0)) := by
    rw [hw2]
    refine (heap_setO (by omega)).trans ?_
    exact B3
  replace B4 : w2.heap[w.heap.size + 1 + 1 + 1 + 1]? = some (.cells #[.int .i64 5, .bool false, .string ByteArray.empty, .slice none 0 0, .slice none 0 0, .int .u64 0] 50 (0, 0)) := by
    rw [hw2]
    have e0 := B4
    have e1 := heap_setCell_same _ (w.heap.size + 1 + 1 + 1 + 1) 0 _ _ (.int .i64 5) e0
    exact e1
  clear hw2
  clear s0 s1 fs0 fs1 k0 k1 k2 k3 k4 r0 r1 fr0 fr1 q0 q1 q2 q3 q4 q5 fq0 fq1 fq2 fq3 fq4 fq5 a0 a1 a2 a3 a4 a5 fa0 fa1 fa2 fa3 fa4 fa5 l0 l1 l2 l3 l4
  have s0 := cell_of_row w2 _ 0 _ _ _ B0
  have s1 := cell_of_row w2 _ 1 _ _ _ B0
  have fs0 := frozen_of_row w2 _ 0 _ _ B0
  have fs1 := frozen_of_row w2 _ 1 _ _ B0
  have k0 := cell_of_row w2 _ 0 _ _ _ B1
  have k1 := cell_of_row w2 _ 1 _ _ _ B1
  have k2 := cell_of_row w2 _ 2 _ _ _ B1
  have k3 := cell_of_row w2 _ 3 _ _ _ B1
  have k4 := cell_of_row w2 _ 4 _ _ _ B1
  have r0 := cell_of_row w2 _ 0 _ _ _ B2
  have r1 := cell_of_row w2 _ 1 _ _ _ B2
  have fr0 := frozen_of_row w2 _ 0 _ _ B2
  have fr1 := frozen_of_row w2 _ 1 _ _ B2
  have q0 := cell_of_row w2 _ 0 _ _ _ B3
  have q1 := cell_of_row w2 _ 1 _ _ _ B3
  have q2 := cell_of_row w2 _ 2 _ _ _ B3
  have q3 := cell_of_row w2 _ 3 _ _ _ B3
  have q4 := cell_of_row w2 _ 4 _ _ _ B3
  have q5 := cell_of_row w2 _ 5 _ _ _ B3
  have fq0 := frozen_of_row w2 _ 0 _ _ B3
  have fq1 := frozen_of_row w2 _ 1 _ _ B3
  have fq2 := frozen_of_row w2 _ 2 _ _ B3
  have fq3 := frozen_of_row w2 _ 3 _ _ B3
  have fq4 := frozen_of_row w2 _ 4 _ _ B3
  have fq5 := frozen_of_row w2 _ 5 _ _ B3
  have a0 := cell_of_row w2 _ 0 _ _ _ B4
  have a1 := cell_of_row w2 _ 1 _ _ _ B4
  have a2 := cell_of_row w2 _ 2 _ _ _ B4
  have a3 := cell_of_row w2 _ 3 _ _ _ B4
  have a4 := cell_of_row w2 _ 4 _ _ _ B4
  have a5 := cell_of_row w2 _ 5 _ _ _ B4
  have fa0 := frozen_of_row w2 _ 0 _ _ B4
  have fa1 := frozen_of_row w2 _ 1 _ _ B4
  have fa2 := frozen_of_row w2 _ 2 _ _ B4
  have fa3 := frozen_of_row w2 _ 3 _ _ B4
  have fa4 := frozen_of_row w2 _ 4 _ _ B4
  have fa5 := frozen_of_row w2 _ 5 _ _ B4
  simp only [List.getElem?_toArray, List.getElem?_cons_zero, List.getElem?_cons_succ] at s0 s1 k0 k1 k2 k3 k4 r0 r1 q0 q1 q2 q3 q4 q5 a0 a1 a2 a3 a4 a5
  have l0 : w.heap.size < w2.heap.size := by omega
  have l1 : w.heap.size + 1 < w2.heap.size := by omega
  have l2 : w.heap.size + 1 + 1 < w2.heap.size := by omega
  have l3 : w.heap.size + 1 + 1 + 1 < w2.heap.size := by omega
  have l4 : w.heap.size + 1 + 1 + 1 + 1 < w2.heap.size := by omega
  go_region
  all_goals
    go_wp2_with fail
    refine bodyPost_ret (v := .tuple #[.agg #[.slice PA s.pairs.length pc, .slice QA s.queue.length qc], .agg #[.int .i64 5, .bool false, .string ByteArray.empty, .slice none 0 0, .slice none 0 0, .int .u64 0]]) (by simp [results, Tryz.results30, go_sem, r0, r1, q0, q1, q2, q3, q4, q5]) rfl ⟨PA, pc, QA, qc, none, 0, none, 0, rfl, ?_, .inr ⟨rfl, rfl, rfl⟩, Arr.nil, Nat.le_refl _, by omega, Arr.nil, Nat.le_refl _, by omega, ?_⟩
    · exact in_below H.out (by repeat (first | with_reducible exact Below.refl _ _ | with_reducible assumption | with_reducible refine Below.drew ?_ | with_reducible refine below_drewN ?_ _ | with_reducible refine Below.alloc ?_ (by first | omega | (simp; done) | (simp; omega)) _ | with_reducible refine Below.setCell ?_ (by first | omega | (simp; done) | (simp; omega)) _))
    · exact (by repeat (first | with_reducible exact Below.refl _ _ | with_reducible assumption | with_reducible refine Below.drew ?_ | with_reducible refine below_drewN ?_ _ | with_reducible refine Below.alloc ?_ (by first | omega | (simp; done) | (simp; omega)) _ | with_reducible refine Below.setCell ?_ (by first | omega | (simp; done) | (simp; omega)) _))
set_option maxHeartbeats 4000000 in
set_option maxRecDepth 100000 in
theorem refap_k8 (s : Shelf) (PA : Option Addr) (pc : Nat) (QA : Option Addr) (qc : Nat) (key val to' : ByteArray) (gA : Option Addr) (gn gc : Nat) (g : List Call0) (w : World) (h : ShIn w w.heap.size PA pc QA qc s) (hp : s.pairs.length ≤ 90000) (hq : s.queue.length ≤ 90000) (hc : CallIn w w.heap.size ⟨8, key, val, to', gA, gn, gc⟩ g) (hgood : goodI ⟨8, key, val, to', gA, gn, gc⟩ g = 0) :
    Calls Tryz.prog 30 #[.agg #[.slice PA s.pairs.length pc, .slice QA s.queue.length qc], .agg #[.int .i64 8, .string key, .string val, .string to', .slice gA gn gc]] w (GivesRA PA QA s s (ans0 0) w) := by
  have H := hid h
  have HC := hid hc
  have HG := hid hgood
  have HP := hid hp
  have HQ := hid hq
  have hplen := h.plen
  have hpmax := h.pmax
  have hqlen := h.qlen
  have hqmax := h.qmax
  clear h hc hgood hp hq
  go_enter Tryz.func30, Tryz.ntmps30
  go_wp2_with fail
  refine (refgood_any ⟨8, key, val, to', gA, gn, gc⟩ g _ ((HC.out.below (by repeat (first | exact Below.refl _ _ | assumption | refine Below.drew ?_ | refine below_drewN ?_ _ | refine Below.alloc ?_ (by first | omega | (simp; done) | (simp; omega)) _ | refine Below.setCell ?_ (by first | omega | (simp; done) | (simp; omega)) _))).more (by first | omega | (simp; done) | (simp; omega)))).mono ?_
  rintro e w1 ⟨rfl, hb1⟩
  rw [HG.out]
  have z1 := hb1.size
  simp only [World.size_alloc] at z1
  have bw1 : Below w.heap.size w w1 := Below.trans (by repeat (first | exact Below.refl _ _ | assumption | refine Below.drew ?_ | refine below_drewN ?_ _ | refine Below.alloc ?_ (by first | omega | (simp; done) | (simp; omega)) _ | refine Below.setCell ?_ (by first | omega | (simp; done) | (simp; omega)) _)) (hb1.mono (show w.heap.size ≤ _ from (by first | omega | (simp; done) | (simp; omega))))
  have B0 : w1.heap[w.heap.size]? = some (.cells #[.slice PA s.pairs.length pc, .slice QA s.queue.length qc] 25 (0, 0)) := (hb1.block _ (by first | (simp; done) | (simp; omega))).trans (by repeat (first | with_reducible exact heap_newR (by first | omega | (simp; done) | (simp; omega)) | exact heap_newR (by first | omega | (simp; done) | (simp; omega)) | (with_reducible refine (Below.heap_alloc _ _ _ ?_).trans ?_; exact (by first | omega | (simp; done) | (simp; omega)))))
  have B1 : w1.heap[w.heap.size + 1]? = some (.cells #[.int .i64 8, .string key, .string val, .string to', .slice gA gn gc] 46 (0, 0)) := (hb1.block _ (by first | (simp; done) | (simp; omega))).trans (by repeat (first | with_reducible exact heap_newR (by first | omega | (simp; done) | (simp; omega)) | exact heap_newR (by first | omega | (simp; done) | (simp; omega)) | (with_reducible refine (Below.heap_alloc _ _ _ ?_).trans ?_; exact (by first | omega | (simp; done) | (simp; omega)))))
  have B2 : w1.heap[w.heap.size + 1 + 1]? = some (.cells #[.slice none 0 0, .slice none 0 0] 25 (0, 0)) := (hb1.block _ (by first | (simp; done) | (simp; omega))).trans (by repeat (first | with_reducible exact heap_newR (by first | omega | (simp; done) | (simp; omega)) | exact heap_newR (by first | omega | (simp; done) | (simp; omega)) | (with_reducible refine (Below.heap_alloc _ _ _ ?_).trans ?_; exact (by first | omega | (simp; done) | (simp; omega)))))
  have B3 : w1.heap[w.heap.size + 1 + 1 + 1]? = some (.cells #[.int .i64 0, .bool false, .string ByteArray.empty, .slice none 0 0, .slice none 0 0, .int .u64 0] 50 (0, 0)) := (hb1.block _ (by first | (simp; done) | (simp; omega))).trans (by repeat (first | with_reducible exact heap_newR (by first | omega | (simp; done) | (simp; omega)) | exact heap_newR (by first | omega | (simp; done) | (simp; omega)) | (with_reducible refine (Below.heap_alloc _ _ _ ?_).trans ?_; exact (by first | omega | (simp; done) | (simp; omega)))))
  have B4 : w1.heap[w.heap.size + 1 + 1 + 1 + 1]? = some (.cells #[.int .i64 0, .bool false, .string ByteArray.empty, .slice none 0 0, .slice none 0 0, .int .u64 0] 50 (0, 0)) := (hb1.block _ (by first | (simp; done) | (simp; omega))).trans (by repeat (first | with_reducible exact heap_newR (by first | omega | (simp; done) | (simp; omega)) | exact heap_newR (by first | omega | (simp; done) | (simp; omega)) | (with_reducible refine (Below.heap_alloc _ _ _ ?_).trans ?_; exact (by first | omega | (simp; done) | (simp; omega)))))
  clear hb1
  have s0 := cell_of_row w1 _ 0 _ _ _ B0
  have s1 := cell_of_row w1 _ 1 _ _ _ B0
  have fs0 := frozen_of_row w1 _ 0 _ _ B0
  have fs1 := frozen_of_row w1 _ 1 _ _ B0
  have k0 := cell_of_row w1 _ 0 _ _ _ B1
  have k1 := cell_of_row w1 _ 1 _ _ _ B1
  have k2 := cell_of_row w1 _ 2 _ _ _ B1
  have k3 := cell_of_row w1 _ 3 _ _ _ B1
  have k4 := cell_of_row w1 _ 4 _ _ _ B1
  have r0 := cell_of_row w1 _ 0 _ _ _ B2
  have r1 := cell_of_row w1 _ 1 _ _ _ B2
  have fr0 := frozen_of_row w1 _ 0 _ _ B2
  have fr1 := frozen_of_row w1 _ 1 _ _ B2
  have q0 := cell_of_row w1 _ 0 _ _ _ B3
  have q1 := cell_of_row w1 _ 1 _ _ _ B3
  have q2 := cell_of_row w1 _ 2 _ _ _ B3
  have q3 := cell_of_row w1 _ 3 _ _ _ B3
  have q4 := cell_of_row w1 _ 4 _ _ _ B3
  have q5 := cell_of_row w1 _ 5 _ _ _ B3
  have fq0 := frozen_of_row w1 _ 0 _ _ B3
  have fq1 := frozen_of_row w1 _ 1 _ _ B3
  have fq2 := frozen_of_row w1 _ 2 _ _ B3
  have fq3 := frozen_of_row w1 _ 3 _ _ B3
  have fq4 := frozen_of_row w1 _ 4 _ _ B3
  have fq5 := frozen_of_row w1 _ 5 _ _ B3
  have a0 := cell_of_row w1 _ 0 _ _ _ B4
  have a1 := cell_of_row w1 _ 1 _ _ _ B4
  have a2 := cell_of_row w1 _ 2 _ _ _ B4
  have a3 := cell_of_row w1 _ 3 _ _ _ B4
  have a4 := cell_of_row w1 _ 4 _ _ _ B4
  have a5 := cell_of_row w1 _ 5 _ _ _ B4
  have fa0 := frozen_of_row w1 _ 0 _ _ B4
  have fa1 := frozen_of_row w1 _ 1 _ _ B4
  have fa2 := frozen_of_row w1 _ 2 _ _ B4
  have fa3 := frozen_of_row w1 _ 3 _ _ B4
  have fa4 := frozen_of_row w1 _ 4 _ _ B4
  have fa5 := frozen_of_row w1 _ 5 _ _ B4
  simp only [List.getElem?_toArray, List.getElem?_cons_zero, List.getElem?_cons_succ] at s0 s1 k0 k1 k2 k3 k4 r0 r1 q0 q1 q2 q3 q4 q5 a0 a1 a2 a3 a4 a5
  have l0 : w.heap.size < w1.heap.size := by omega
  have l1 : w.heap.size + 1 < w1.heap.size := by omega
  have l2 : w.heap.size + 1 + 1 < w1.heap.size := by omega
  have l3 : w.heap.size + 1 + 1 + 1 < w1.heap.size := by omega
  have l4 : w.heap.size + 1 + 1 + 1 + 1 < w1.heap.size := by omega
  go_upto_region 35 with fail
  go_region
  all_goals
    go_wp2_with fail
    refine bodyPost_ret (v := .tuple #[.agg #[.slice PA s.pairs.length pc, .slice QA s.queue.length qc], .agg #[.int .i64 0, .bool false, .string ByteArray.empty, .slice none 0 0, .slice none 0 0, .int .u64 0]]) (by simp [results, Tryz.results30, go_sem, r0, r1, q0, q1, q2, q3, q4, q5]) rfl ⟨PA, pc, QA, qc, none, 0, none, 0, rfl, ?_, .inr ⟨rfl, rfl, rfl⟩, Arr.nil, Nat.le_refl _, by omega, Arr.nil, Nat.le_refl _, by omega, ?_⟩
    · exact in_below H.out (by repeat (first | with_reducible exact Below.refl _ _ | with_reducible assumption | with_reducible refine Below.drew ?_ | with_reducible refine below_drewN ?_ _ | with_reducible refine Below.alloc ?_ (by first | omega | (simp; done) | (simp; omega)) _ | with_reducible refine Below.setCell ?_ (by first | omega | (simp; done) | (simp; omega)) _))
    · exact (by repeat (first | with_reducible exact Below.refl _ _ | with_reducible assumption | with_reducible refine Below.drew ?_ | with_reducible refine below_drewN ?_ _ | with_reducible refine Below.alloc ?_ (by first | omega | (simp; done) | (simp; omega)) _ | with_reducible refine Below.setCell ?_ (by first | omega | (simp; done) | (simp; omega)) _))
set_option maxHeartbeats 4000000 in
set_option maxRecDepth 100000 in
theorem refap_k1 (s : Shelf) (PA : Option Addr) (pc : Nat) (QA : Option Addr) (qc : Nat) (key val to' : ByteArray) (gA : Option Addr) (gn gc : Nat) (g : List Call0) (w : World) (h : ShIn w w.heap.size PA pc QA qc s) (hp : s.pairs.length ≤ 90000) (hq : s.queue.length ≤ 90000) (hc : CallIn w w.heap.size ⟨1, key, val, to', gA, gn, gc⟩ g) (hgood : goodI ⟨1, key, val, to', gA, gn, gc⟩ g = 0) :
    Calls Tryz.prog 30 #[.agg #[.slice PA s.pairs.length pc, .slice QA s.queue.length qc], .agg #[.int .i64 1, .string key, .string val, .string to', .slice gA gn gc]] w (GivesRA PA QA s s { ans0 0 with value := (getD' s.pairs key).1, found := (getD' s.pairs key).2 } w) := by
  have H := hid h
  have HC := hid hc
  have HG := hid hgood
  have HP := hid hp
  have HQ := hid hq
  have hplen := h.plen
  have hpmax := h.pmax
  have hqlen := h.qlen
  have hqmax := h.qmax
  clear h hc hgood hp hq
  go_enter Tryz.func30, Tryz.ntmps30
  go_wp2_with fail
  refine (refgood_any ⟨1, key, val, to', gA, gn, gc⟩ g _ ((HC.out.below (by repeat (first | exact Below.refl _ _ | assumption | refine Below.drew ?_ | refine below_drewN ?_ _ | refine Below.alloc ?_ (by first | omega | (simp; done) | (simp; omega)) _ | refine Below.setCell ?_ (by first | omega | (simp; done) | (simp; omega)) _))).more (by first | omega | (simp; done) | (simp; omega)))).mono ?_
  rintro e w1 ⟨rfl, hb1⟩
  rw [HG.out]
  have z1 := hb1.size
  simp only [World.size_alloc] at z1
  have bw1 : Below w.heap.size w w1 := Below.trans (by repeat (first | exact Below.refl _ _ | assumption | refine Below.drew ?_ | refine below_drewN ?_ _ | refine Below.alloc ?_ (by first | omega | (simp; done) | (simp; omega)) _ | refine Below.setCell ?_ (by first | omega | (simp; done) | (simp; omega)) _)) (hb1.mono (show w.heap.size ≤ _ from (by first | omega | (simp; done) | (simp; omega))))
  have B0 : w1.heap[w.heap.size]? = some (.cells #[.slice PA s.pairs.length pc, .slice QA s.queue.length qc] 25 (0, 0)) := (hb1.block _ (by first | (simp; done) | (simp; omega))).trans (by repeat (first | with_reducible exact heap_newR (by first | omega | (simp; done) | (simp; omega)) | exact heap_newR (by first | omega | (simp; done) | (simp; omega)) | (with_reducible refine (Below.heap_alloc _ _ _ ?_).trans ?_; exact (by first | omega | (simp; done) | (simp; omega)))))
  have B1 : w1.heap[w.heap.size + 1]? = some (.cells #[.int .i64 1, .string key, .string val, .string to', .slice gA gn gc] 46 (0, 0)) := (hb1.block _ (by first | (simp; done) | (simp; omega))).trans (by repeat (first | with_reducible exact heap_newR (by first | omega | (simp; done) | (simp; omega)) | exact heap_newR (by first | omega | (simp; done) | (simp; omega)) | (with_reducible refine (Below.heap_alloc _ _ _ ?_).trans ?_; exact (by first | omega | (simp; done) | (simp; omega)))))
  have B2 : w1.heap[w.heap.size + 1 + 1]? = some (.cells #[.slice none 0 0, .slice none 0 0] 25 (0, 0)) := (hb1.block _ (by first | (simp; done) | (simp; omega))).trans (by repeat (first | with_reducible exact heap_newR (by first | omega | (simp; done) | (simp; omega)) | exact heap_newR (by first | omega | (simp; done) | (simp; omega)) | (with_reducible refine (Below.heap_alloc _ _ _ ?_).trans ?_; exact (by first | omega | (simp; done) | (simp; omega)))))
  have B3 : w1.heap[w.heap.size + 1 + 1 + 1]? = some (.cells #[.int .i64 0, .bool false, .string ByteArray.empty, .slice none 0 0, .slice none 0 0, .int .u64 0] 50 (0, 0)) := (hb1.block _ (by first | (simp; done) | (simp; omega))).trans (by repeat (first | with_reducible exact heap_newR (by first | omega | (simp; done) | (simp; omega)) | exact heap_newR (by first | omega | (simp; done) | (simp; omega)) | (with_reducible refine (Below.heap_alloc _ _ _ ?_).trans ?_; exact (by first | omega | (simp; done) | (simp; omega)))))
  have B4 : w1.heap[w.heap.size + 1 + 1 + 1 + 1]? = some (.cells #[.int .i64 0, .bool false, .string ByteArray.empty, .slice none 0 0, .slice none 0 0, .int .u64 0] 50 (0, 0)) := (hb1.block _ (by first | (simp; done) | (simp; omega))).trans (by repeat (first | with_reducible exact heap_newR (by first | omega | (simp; done) | (simp; omega)) | exact heap_newR (by first | omega | (simp; done) | (simp; omega)) | (with_reducible refine (Below.heap_alloc _ _ _ ?_).trans ?_; exact (by first | omega | (simp; done) | (simp; omega)))))
  clear hb1
  have s0 := cell_of_row w1 _ 0 _ _ _ B0
  have s1 := cell_of_row w1 _ 1 _ _ _ B0
  have fs0 := frozen_of_row w1 _ 0 _ _ B0
  have fs1 := frozen_of_row w1 _ 1 _ _ B0
  have k0 := cell_of_row w1 _ 0 _ _ _ B1
  have k1 := cell_of_row w1 _ 1 _ _ _ B1
  have k2 := cell_of_row w1 _ 2 _ _ _ B1
  have k3 := cell_of_row w1 _ 3 _ _ _ B1
  have k4 := cell_of_row w1 _ 4 _ _ _ B1
  have r0 := cell_of_row w1 _ 0 _ _ _ B2
  have r1 := cell_of_row w1 _ 1 _ _ _ B2
  have fr0 := frozen_of_row w1 _ 0 _ _ B2
  have fr1 := frozen_of_row w1 _ 1 _ _ B2
  have q0 := cell_of_row w1 _ 0 _ _ _ B3
  have q1 := cell_of_row w1 _ 1 _ _ _ B3
  have q2 := cell_of_row w1 _ 2 _ _ _ B3
  have q3 := cell_of_row w1 _ 3 _ _ _ B3
  have q4 := cell_of_row w1 _ 4 _ _ _ B3
  have q5 := cell_of_row w1 _ 5 _ _ _ B3
  have fq0 := frozen_of_row w1 _ 0 _ _ B3
  have fq1 := frozen_of_row w1 _ 1 _ _ B3
  have fq2 := frozen_of_row w1 _ 2 _ _ B3
  have fq3 := frozen_of_row w1 _ 3 _ _ B3
  have fq4 := frozen_of_row w1 _ 4 _ _ B3
  have fq5 := frozen_of_row w1 _ 5 _ _ B3
  have a0 := cell_of_row w1 _ 0 _ _ _ B4
  have a1 := cell_of_row w1 _ 1 _ _ _ B4
  have a2 := cell_of_row w1 _ 2 _ _ _ B4
  have a3 := cell_of_row w1 _ 3 _ _ _ B4
  have a4 := cell_of_row w1 _ 4 _ _ _ B4
  have a5 := cell_of_row w1 _ 5 _ _ _ B4
  have fa0 := frozen_of_row w1 _ 0 _ _ B4
  have fa1 := frozen_of_row w1 _ 1 _ _ B4
  have fa2 := frozen_of_row w1 _ 2 _ _ B4
  have fa3 := frozen_of_row w1 _ 3 _ _ B4
  have fa4 := frozen_of_row w1 _ 4 _ _ B4
  have fa5 := frozen_of_row w1 _ 5 _ _ B4
  simp only [List.getElem?_toArray, List.getElem?_cons_zero, List.getElem?_cons_succ] at s0 s1 k0 k1 k2 k3 k4 r0 r1 q0 q1 q2 q3 q4 q5 a0 a1 a2 a3 a4 a5
  have l0 : w.heap.size < w1.heap.size := by omega
  have l1 : w.heap.size + 1 < w1.heap.size := by omega
  have l2 : w.heap.size + 1 + 1 < w1.heap.size := by omega
  have l3 : w.heap.size + 1 + 1 + 1 < w1.heap.size := by omega
  have l4 : w.heap.size + 1 + 1 + 1 + 1 < w1.heap.size := by omega
  go_wp2_with fail
  refine (refget_any s PA pc QA s.queue.length qc key _ (in_below H.out bw1).pairs hplen hpmax).mono ?_
  rintro e w2 ⟨rfl, hb2⟩
  have bw2 : Below w.heap.size w w2 := bw1.trans (hb2.mono bw1.size)
  have z2 := hb2.size
  clear s0 s1 fs0 fs1 k0 k1 k2 k3 k4 r0 r1 fr0 fr1 q0 q1 q2 q3 q4 q5 fq0 fq1 fq2 fq3 fq4 fq5 a0 a1 a2 a3 a4 a5 fa0 fa1 fa2 fa3 fa4 fa5 l0 l1 l2 l3 l4
  replace B0 : w2.heap[w.heap.size]? = some (.cells #[.slice PA s.pairs.length pc, .slice QA s.queue.length qc] 25 (0, 0)) := (hb2.block _ (by omega)).trans B0
  replace B1 : w2.heap[w.heap.size + 1]? = some (.cells #[.int .i64 1, .string key, .string val, .string to', .slice gA gn gc] 46 (0, 0)) := (hb2.block _ (by omega)).trans B1
  replace B2 : w2.heap[w.heap.size + 1 + 1]? = some (.cells #[.slice none 0 0, .slice none 0 0] 25 (0, 0)) := (hb2.block _ (by omega)).trans B2
  replace B3 : w2.heap[w.heap.size + 1 + 1 + 1]? = some (.cells #[.int .i64 0, .bool false, .string ByteArray.empty, .slice none 0 0, .slice none 0 0, .int .u64 0] 50 (0, 0)) := (hb2.block _ (by omega)).trans B3
  replace B4 : w2.heap[w.heap.size + 1 + 1 + 1 + 1]? = some (.cells #[.int .i64 0, .bool false, .string ByteArray.empty, .slice none 0 0, .slice none 0 0, .int .u64 0] 50 (0, 0)) := (hb2.block _ (by omega)).trans B4
  have s0 := cell_of_row w2 _ 0 _ _ _ B0
  have s1 := cell_of_row w2 _ 1 _ _ _ B0
  have fs0 := frozen_of_row w2 _ 0 _ _ B0
  have fs1 := frozen_of_row w2 _ 1 _ _ B0
  have k0 := cell_of_row w2 _ 0 _ _ _ B1
  have k1 := cell_of_row w2 _ 1 _ _ _ B1
  have k2 := cell_of_row w2 _ 2 _ _ _ B1
  have k3 := cell_of_row w2 _ 3 _ _ _ B1
  have k4 := cell_of_row w2 _ 4 _ _ _ B1
  have r0 := cell_of_row w2 _ 0 _ _ _ B2
  have r1 := cell_of_row w2 _ 1 _ _ _ B2
  have fr0 := frozen_of_row w2 _ 0 _ _ B2
  have fr1 := frozen_of_row w2 _ 1 _ _ B2
  have q0 := cell_of_row w2 _ 0 _ _ _ B3
  have q1 := cell_of_row w2 _ 1 _ _ _ B3
  have q2 := cell_of_row w2 _ 2 _ _ _ B3
  have q3 := cell_of_row w2 _ 3 _ _ _ B3
  have q4 := cell_of_row w2 _ 4 _ _ _ B3
  have q5 := cell_of_row w2 _ 5 _ _ _ B3
  have fq0 := frozen_of_row w2 _ 0 _ _ B3
  have fq1 := frozen_of_row w2 _ 1 _ _ B3
  have fq2 := frozen_of_row w2 _ 2 _ _ B3
  have fq3 := frozen_of_row w2 _ 3 _ _ B3
  have fq4 := frozen_of_row w2 _ 4 _ _ B3
  have fq5 := frozen_of_row w2 _ 5 _ _ B3
  have a0 := cell_of_row w2 _ 0 _ _ _ B4
  have a1 := cell_of_row w2 _ 1 _ _ _ B4
  have a2 := cell_of_row w2 _ 2 _ _ _ B4
  have a3 := cell_of_row w2 _ 3 _ _ _ B4
  have a4 := cell_of_row w2 _ 4 _ _ _ B4
  have a5 := cell_of_row w2 _ 5 _ _ _ B4
  have fa0 := frozen_of_row w2 _ 0 _ _ B4
  have fa1 := frozen_of_row w2 _ 1 _ _ B4
  have fa2 := frozen_of_row w2 _ 2 _ _ B4
  have fa3 := frozen_of_row w2 _ 3 _ _ B4
  have fa4 := frozen_of_row w2 _ 4 _ _ B4
  have fa5 := frozen_of_row w2 _ 5 _ _ B4
  simp only [List.getElem?_toArray, List.getElem?_cons_zero, List.getElem?_cons_succ] at s0 s1 k0 k1 k2 k3 k4 r0 r1 q0 q1 q2 q3 q4 q5 a0 a1 a2 a3 a4 a5
  have l0 : w.heap.size < w2.heap.size := by omega
  have l1 : w.heap.size + 1 < w2.heap.size := by omega
  have l2 : w.heap.size + 1 + 1 < w2.heap.size := by omega
  have l3 : w.heap.size + 1 + 1 + 1 < w2.heap.size := by omega
  have l4 : w.heap.size + 1 + 1 + 1 + 1 < w2.heap.size := by omega
  obtain ⟨gv, hgv⟩ : ∃ gv, gv = getD' s.pairs key := ⟨_, rfl⟩
  rw [← hgv]
  have HGV := hid hgv
  clear hgv
  go_upto_region 35 with fail
  obtain ⟨w3, hw3⟩ : ∃ w3, w3 = (w2.setCell ⟨w.heap.size + 1 + 1 + 1 + 1, 2, none⟩ (.string gv.1)).setCell ⟨w.heap.size + 1 + 1 + 1 + 1, 1, none⟩ (.bool gv.2) := ⟨_, rfl⟩
  rw [← hw3]
  have zw3 : w3.heap.size = w2.heap.size := by rw [hw3]; simp [World.setCell]
  have bw3 : Below w.heap.size w w3 := by rw [hw3]; exact ((bw2.setCell (by show w.heap.size ≤ w.heap.size + 1 + 1 + 1 + 1; omega) _).setCell (by show w.heap.size ≤ w.heap.size + 1 + 1 + 1 + 1; omega) _)
  replace B0 : w3.heap[w.heap.size]? = some (.cells #[.slice PA s.pairs.length pc, .slice QA s.queue.length qc] 25 (0, 0)) := by
    rw [hw3]
    refine (heap_setO (by omega)).trans ?_
    refine (heap_setO (by omega)).trans ?_
    exact B0
  replace B1 : w3.heap[w.heap.size + 1]? = some (.cells #[.int .i64 1, .string key, .string val, .string to', .slice gA gn gc] 46 (0, 0)) := by
    rw [hw3]
    refine (heap_setO (by omega)).trans ?_
    refine (heap_setO (by omega)).trans ?_
    exact B1
  replace B2 : w3.heap[w.heap.size + 1 + 1]? = some (.cells #[.slice none 0 0, .slice none 0 0] 25 (0, 0)) := by
    rw [hw3]
    refine (heap_setO (by omega)).trans ?_
    refine (heap_setO (by omega)).trans ?_
    exact B2
  replace B3 : w3.heap[w.heap.size + 1 + 1 + 1]? = some (.cells #[.int .i64 0, .bool false, .string ByteArray.empty, .slice none 0 0, .slice none 0 0, .int .u64 0] 50 (0, 0)) := by
    rw [hw3]
    refine (heap_setO (by omega)).trans ?_
    refine (heap_setO (by omega)).trans ?_
    exact B3
  replace B4 : w3.heap[w.heap.size + 1 + 1 + 1 + 1]? = some (.cells #[.int .i64 0, .bool gv.2, .string gv.1, .slice none 0 0, .slice none 0 0, .int .u64 0] 50 (0, 0)) := by
    rw [hw3]
    have e0 := B4
    have e1 := heap_setCell_same _ (w.heap.size + 1 + 1 + 1 + 1) 2 _ _ (.string gv.1) e0
    have e2 := heap_setCell_same _ (w.heap.size + 1 + 1 + 1 + 1) 1 _ _ (.bool gv.2) e1
    exact e2
  clear hw3
  clear s0 s1 fs0 fs1 k0 k1 k2 k3 k4 r0 r1 fr0 fr1 q0 q1 q2 q3 q4 q5 fq0 fq1 fq2 fq3 fq4 fq5 a0 a1 a2 a3 a4 a5 fa0 fa1 fa2 fa3 fa4 fa5 l0 l1 l2 l3 l4
  have s0 := cell_of_row w3 _ 0 _ _ _ B0
  have s1 := cell_of_row w3 _ 1 _ _ _ B0
  have fs0 := frozen_of_row w3 _ 0 _ _ B0
  have fs1 := frozen_of_row w3 _ 1 _ _ B0
  have k0 := cell_of_row w3 _ 0 _ _ _ B1
  have k1 := cell_of_row w3 _ 1 _ _ _ B1
  have k2 := cell_of_row w3 _ 2 _ _ _ B1
  have k3 := cell_of_row w3 _ 3 _ _ _ B1
  have k4 := cell_of_row w3 _ 4 _ _ _ B1
  have r0 := cell_of_row w3 _ 0 _ _ _ B2
  have r1 := cell_of_row w3 _ 1 _ _ _ B2
  have fr0 := frozen_of_row w3 _ 0 _ _ B2
  have fr1 := frozen_of_row w3 _ 1 _ _ B2
  have q0 := cell_of_row w3 _ 0 _ _ _ B3
  have q1 := cell_of_row w3 _ 1 _ _ _ B3
  have q2 := cell_of_row w3 _ 2 _ _ _ B3
  have q3 := cell_of_row w3 _ 3 _ _ _ B3
  have q4 := cell_of_row w3 _ 4 _ _ _ B3
  have q5 := cell_of_row w3 _ 5 _ _ _ B3
  have fq0 := frozen_of_row w3 _ 0 _ _ B3
  have fq1 := frozen_of_row w3 _ 1 _ _ B3
  have fq2 := frozen_of_row w3 _ 2 _ _ B3
  have fq3 := frozen_of_row w3 _ 3 _ _ B3
  have fq4 := frozen_of_row w3 _ 4 _ _ B3
  have fq5 := frozen_of_row w3 _ 5 _ _ B3
  have a0 := cell_of_row w3 _ 0 _ _ _ B4
  have a1 := cell_of_row w3 _ 1 _ _ _ B4
  have a2 := cell_of_row w3 _ 2 _ _ _ B4
  have a3 := cell_of_row w3 _ 3 _ _ _ B4
  have a4 := cell_of_row w3 _ 4 _ _ _ B4
  have a5 := cell_of_row w3 _ 5 _ _ _ B4
  have fa0 := frozen_of_row w3 _ 0 _ _ B4
  have fa1 := frozen_of_row w3 _ 1 _ _ B4
  have fa2 := frozen_of_row w3 _ 2 _ _ B4
  have fa3 := frozen_of_row w3 _ 3 _ _ B4
  have fa4 := frozen_of_row w3 _ 4 _ _ B4
  have fa5 := frozen_of_row w3 _ 5 _ _ B4
  simp only [List.getElem?_toArray, List.getElem?_cons_zero, List.getElem?_cons_succ] at s0 s1 k0 k1 k2 k3 k4 r0 r1 q0 q1 q2 q3 q4 q5 a0 a1 a2 a3 a4 a5
  have l0 : w.heap.size < w3.heap.size := by omega
  have l1 : w.heap.size + 1 < w3.heap.size := by omega
  have l2 : w.heap.size + 1 + 1 < w3.heap.size := by omega
  have l3 : w.heap.size + 1 + 1 + 1 < w3.heap.size := by omega
  have l4 : w.heap.size + 1 + 1 + 1 + 1 < w3.heap.size := by omega
  go_region
  all_goals
    go_wp2_with fail
    refine bodyPost_ret (v := .tuple #[.agg #[.slice PA s.pairs.length pc, .slice QA s.queue.length qc], .agg #[.int .i64 0, .bool gv.2, .string gv.1, .slice none 0 0, .slice none 0 0, .int .u64 0]]) (by simp [results, Tryz.results30, go_sem, r0, r1, q0, q1, q2, q3, q4, q5]) rfl ⟨PA, pc, QA, qc, none, 0, none, 0, by rw [HGV.out]; rfl, ?_, .inr ⟨rfl, rfl, rfl⟩, Arr.nil, Nat.le_refl _, by omega, Arr.nil, Nat.le_refl _, by omega, ?_⟩
    · exact in_below H.out (by repeat (first | with_reducible exact Below.refl _ _ | with_reducible assumption | with_reducible refine Below.drew ?_ | with_reducible refine below_drewN ?_ _ | with_reducible refine Below.alloc ?_ (by first | omega | (simp; done) | (simp; omega)) _ | with_reducible refine Below.setCell ?_ (by first | omega | (simp; done) | (simp; omega)) _))
    · exact (by repeat (first | with_reducible exact Below.refl _ _ | with_reducible assumption | with_reducible refine Below.drew ?_ | with_reducible refine below_drewN ?_ _ | with_reducible refine Below.alloc ?_ (by first | omega | (simp; done) | (simp; omega)) _ | with_reducible refine Below.setCell ?_ (by first | omega | (simp; done) | (simp; omega)) _))
end Go.Proofs.YtamcehfcjcmpmaaGreatDoor
namespace Go.Proofs.YtamcehfcjcmpmaaGreatDoor
open Go.RowKit

set_option maxHeartbeats 4000000 in
set_option maxRecDepth 100000 in
theorem refap_k2 (s : Shelf) (PA : Option Addr) (pc : Nat) (QA : Option Addr) (qc : Nat) (key val to' : ByteArray) (gA : Option Addr) (gn gc : Nat) (g : List Call0) (w : World) (h : ShIn w w.heap.size PA pc QA qc s) (hp : s.pairs.length ≤ 90000) (hq : s.queue.length ≤ 90000) (hc : CallIn w w.heap.size ⟨2, key, val, to', gA, gn, gc⟩ g) (hgood : goodI ⟨2, key, val, to', gA, gn, gc⟩ g = 0) :
    Calls Tryz.prog 30 #[.agg #[.slice PA s.pairs.length pc, .slice QA s.queue.length qc], .agg #[.int .i64 2, .string key, .string val, .string to', .slice gA gn gc]] w (GivesRA PA QA s ⟨setP s.pairs key val, s.queue⟩ { ans0 0 with found := hasK s.pairs key } w) := by
  have H := hid h
  have HC := hid hc
  have HG := hid hgood
  have HP := hid hp
  have HQ := hid hq
  have hplen := h.plen
  have hpmax := h.pmax
  have hqlen := h.qlen
  have hqmax := h.qmax
  clear h hc hgood hp hq
  obtain ⟨T, hT⟩ : ∃ T : Shelf, T = ⟨setP s.pairs key val, s.queue⟩ := ⟨_, rfl⟩
  rw [← hT]
  have HT := hid hT
  clear hT
  go_enter Tryz.func30, Tryz.ntmps30
  go_wp2_with fail
  refine (refgood_any ⟨2, key, val, to', gA, gn, gc⟩ g _ ((HC.out.below (by repeat (first | exact Below.refl _ _ | assumption | refine Below.drew ?_ | refine below_drewN ?_ _ | refine Below.alloc ?_ (by first | omega | (simp; done) | (simp; omega)) _ | refine Below.setCell ?_ (by first | omega | (simp; done) | (simp; omega)) _))).more (by first | omega | (simp; done) | (simp; omega)))).mono ?_
  rintro e w1 ⟨rfl, hb1⟩
  rw [HG.out]
  have z1 := hb1.size
  simp only [World.size_alloc] at z1
  have bw1 : Below w.heap.size w w1 := Below.trans (by repeat (first | exact Below.refl _ _ | assumption | refine Below.drew ?_ | refine below_drewN ?_ _ | refine Below.alloc ?_ (by first | omega | (simp; done) | (simp; omega)) _ | refine Below.setCell ?_ (by first | omega | (simp; done) | (simp; omega)) _)) (hb1.mono (show w.heap.size ≤ _ from (by first | omega | (simp; done) | (simp; omega))))
  have B0 : w1.heap[w.heap.size]? = some (.cells #[.slice PA s.pairs.length pc, .slice QA s.queue.length qc] 25 (0, 0)) := (hb1.block _ (by first | (simp; done) | (simp; omega))).trans (by repeat (first | with_reducible exact heap_newR (by first | omega | (simp; done) | (simp; omega)) | exact heap_newR (by first | omega | (simp; done) | (simp; omega)) | (with_reducible refine (Below.heap_alloc _ _ _ ?_).trans ?_; exact (by first | omega | (simp; done) | (simp; omega)))))
  have B1 : w1.heap[w.heap.size + 1]? = some (.cells #[.int .i64 2, .string key, .string val, .string to', .slice gA gn gc] 46 (0, 0)) := (hb1.block _ (by first | (simp; done) | (simp; omega))).trans (by repeat (first | with_reducible exact heap_newR (by first | omega | (simp; done) | (simp; omega)) | exact heap_newR (by first | omega | (simp; done) | (simp; omega)) | (with_reducible refine (Below.heap_alloc _ _ _ ?_).trans ?_; exact (by first | omega | (simp; done) | (simp; omega)))))
  have B2 : w1.heap[w.heap.size + 1 + 1]? = some (.cells #[.slice none 0 0, .slice none 0 0] 25 (0, 0)) := (hb1.block _ (by first | (simp; done) | (simp; omega))).trans (by repeat (first | with_reducible exact heap_newR (by first | omega | (simp; done) | (simp; omega)) | exact heap_newR (by first | omega | (simp; done) | (simp; omega)) | (with_reducible refine (Below.heap_alloc _ _ _ ?_).trans ?_; exact (by first | omega | (simp; done) | (simp; omega)))))
  have B3 : w1.heap[w.heap.size + 1 + 1 + 1]? = some (.cells #[.int .i64 0, .bool false, .string ByteArray.empty, .slice none 0 0, .slice none 0 0, .int .u64 0] 50 (0, 0)) := (hb1.block _ (by first | (simp; done) | (simp; omega))).trans (by repeat (first | with_reducible exact heap_newR (by first | omega | (simp; done) | (simp; omega)) | exact heap_newR (by first | omega | (simp; done) | (simp; omega)) | (with_reducible refine (Below.heap_alloc _ _ _ ?_).trans ?_; exact (by first | omega | (simp; done) | (simp; omega)))))
  have B4 : w1.heap[w.heap.size + 1 + 1 + 1 + 1]? = some (.cells #[.int .i64 0, .bool false, .string ByteArray.empty, .slice none 0 0, .slice none 0 0, .int .u64 0] 50 (0, 0)) := (hb1.block _ (by first | (simp; done) | (simp; omega))).trans (by repeat (first | with_reducible exact heap_newR (by first | omega | (simp; done) | (simp; omega)) | exact heap_newR (by first | omega | (simp; done) | (simp; omega)) | (with_reducible refine (Below.heap_alloc _ _ _ ?_).trans ?_; exact (by first | omega | (simp; done) | (simp; omega)))))
  clear hb1
  have s0 := cell_of_row w1 _ 0 _ _ _ B0
  have s1 := cell_of_row w1 _ 1 _ _ _ B0
  have fs0 := frozen_of_row w1 _ 0 _ _ B0
  have fs1 := frozen_of_row w1 _ 1 _ _ B0
  have k0 := cell_of_row w1 _ 0 _ _ _ B1
  have k1 := cell_of_row w1 _ 1 _ _ _ B1
  have k2 := cell_of_row w1 _ 2 _ _ _ B1
  have k3 := cell_of_row w1 _ 3 _ _ _ B1
  have k4 := cell_of_row w1 _ 4 _ _ _ B1
  have r0 := cell_of_row w1 _ 0 _ _ _ B2
  have r1 := cell_of_row w1 _ 1 _ _ _ B2
  have fr0 := frozen_of_row w1 _ 0 _ _ B2
  have fr1 := frozen_of_row w1 _ 1 _ _ B2
  have q0 := cell_of_row w1 _ 0 _ _ _ B3
  have q1 := cell_of_row w1 _ 1 _ _ _ B3
  have q2 := cell_of_row w1 _ 2 _ _ _ B3
  have q3 := cell_of_row w1 _ 3 _ _ _ B3
  have q4 := cell_of_row w1 _ 4 _ _ _ B3
  have q5 := cell_of_row w1 _ 5 _ _ _ B3
  have fq0 := frozen_of_row w1 _ 0 _ _ B3
  have fq1 := frozen_of_row w1 _ 1 _ _ B3
  have fq2 := frozen_of_row w1 _ 2 _ _ B3
  have fq3 := frozen_of_row w1 _ 3 _ _ B3
  have fq4 := frozen_of_row w1 _ 4 _ _ B3
  have fq5 := frozen_of_row w1 _ 5 _ _ B3
  have a0 := cell_of_row w1 _ 0 _ _ _ B4
  have a1 := cell_of_row w1 _ 1 _ _ _ B4
  have a2 := cell_of_row w1 _ 2 _ _ _ B4
  have a3 := cell_of_row w1 _ 3 _ _ _ B4
  have a4 := cell_of_row w1 _ 4 _ _ _ B4
  have a5 := cell_of_row w1 _ 5 _ _ _ B4
  have fa0 := frozen_of_row w1 _ 0 _ _ B4
  have fa1 := frozen_of_row w1 _ 1 _ _ B4
  have fa2 := frozen_of_row w1 _ 2 _ _ B4
  have fa3 := frozen_of_row w1 _ 3 _ _ B4
  have fa4 := frozen_of_row w1 _ 4 _ _ B4
  have fa5 := frozen_of_row w1 _ 5 _ _ B4
  simp only [List.getElem?_toArray, List.getElem?_cons_zero, List.getElem?_cons_succ] at s0 s1 k0 k1 k2 k3 k4 r0 r1 q0 q1 q2 q3 q4 q5 a0 a1 a2 a3 a4 a5
  have l0 : w.heap.size < w1.heap.size := by omega
  have l1 : w.heap.size + 1 < w1.heap.size := by omega
  have l2 : w.heap.size + 1 + 1 < w1.heap.size := by omega
  have l3 : w.heap.size + 1 + 1 + 1 < w1.heap.size := by omega
  have l4 : w.heap.size + 1 + 1 + 1 + 1 < w1.heap.size := by omega
  go_wp2_with fail
  refine (refget_any s PA pc QA s.queue.length qc key _ (in_below H.out bw1).pairs hplen hpmax).mono ?_
  rintro e w2 ⟨rfl, hb2⟩
  rw [getD'_hasK]
  have bw2 : Below w.heap.size w w2 := bw1.trans (hb2.mono bw1.size)
  have z2 := hb2.size
  clear s0 s1 fs0 fs1 k0 k1 k2 k3 k4 r0 r1 fr0 fr1 q0 q1 q2 q3 q4 q5 fq0 fq1 fq2 fq3 fq4 fq5 a0 a1 a2 a3 a4 a5 fa0 fa1 fa2 fa3 fa4 fa5 l0 l1 l2 l3 l4
  replace B0 : w2.heap[w.heap.size]? = some (.cells #[.slice PA s.pairs.length pc, .slice QA s.queue.length qc] 25 (0, 0)) := (hb2.block _ (by omega)).trans B0
  replace B1 : w2.heap[w.heap.size + 1]? = some (.cells #[.int .i64 2, .string key, .string val, .string to', .slice gA gn gc] 46 (0, 0)) := (hb2.block _ (by omega)).trans B1
  replace B2 : w2.heap[w.heap.size + 1 + 1]? = some (.cells #[.slice none 0 0, .slice none 0 0] 25 (0, 0)) := (hb2.block _ (by omega)).trans B2
  replace B3 : w2.heap[w.heap.size + 1 + 1 + 1]? = some (.cells #[.int .i64 0, .bool false, .string ByteArray.empty, .slice none 0 0, .slice none 0 0, .int .u64 0] 50 (0, 0)) := (hb2.block _ (by omega)).trans B3
  replace B4 : w2.heap[w.heap.size + 1 + 1 + 1 + 1]? = some (.cells #[.int .i64 0, .bool false, .string ByteArray.empty, .slice none 0 0, .slice none 0 0, .int .u64 0] 50 (0, 0)) := (hb2.block _ (by omega)).trans B4
  have s0 := cell_of_row w2 _ 0 _ _ _ B0
  have s1 := cell_of_row w2 _ 1 _ _ _ B0
  have fs0 := frozen_of_row w2 _ 0 _ _ B0
  have fs1 := frozen_of_row w2 _ 1 _ _ B0
  have k0 := cell_of_row w2 _ 0 _ _ _ B1
  have k1 := cell_of_row w2 _ 1 _ _ _ B1
  have k2 := cell_of_row w2 _ 2 _ _ _ B1
  have k3 := cell_of_row w2 _ 3 _ _ _ B1
  have k4 := cell_of_row w2 _ 4 _ _ _ B1
  have r0 := cell_of_row w2 _ 0 _ _ _ B2
  have r1 := cell_of_row w2 _ 1 _ _ _ B2
  have fr0 := frozen_of_row w2 _ 0 _ _ B2
  have fr1 := frozen_of_row w2 _ 1 _ _ B2
  have q0 := cell_of_row w2 _ 0 _ _ _ B3
  have q1 := cell_of_row w2 _ 1 _ _ _ B3
  have q2 := cell_of_row w2 _ 2 _ _ _ B3
  have q3 := cell_of_row w2 _ 3 _ _ _ B3
  have q4 := cell_of_row w2 _ 4 _ _ _ B3
  have q5 := cell_of_row w2 _ 5 _ _ _ B3
  have fq0 := frozen_of_row w2 _ 0 _ _ B3
  have fq1 := frozen_of_row w2 _ 1 _ _ B3
  have fq2 := frozen_of_row w2 _ 2 _ _ B3
  have fq3 := frozen_of_row w2 _ 3 _ _ B3
  have fq4 := frozen_of_row w2 _ 4 _ _ B3
  have fq5 := frozen_of_row w2 _ 5 _ _ B3
  have a0 := cell_of_row w2 _ 0 _ _ _ B4
  have a1 := cell_of_row w2 _ 1 _ _ _ B4
  have a2 := cell_of_row w2 _ 2 _ _ _ B4
  have a3 := cell_of_row w2 _ 3 _ _ _ B4
  have a4 := cell_of_row w2 _ 4 _ _ _ B4
  have a5 := cell_of_row w2 _ 5 _ _ _ B4
  have fa0 := frozen_of_row w2 _ 0 _ _ B4
  have fa1 := frozen_of_row w2 _ 1 _ _ B4
  have fa2 := frozen_of_row w2 _ 2 _ _ B4
  have fa3 := frozen_of_row w2 _ 3 _ _ B4
  have fa4 := frozen_of_row w2 _ 4 _ _ B4
  have fa5 := frozen_of_row w2 _ 5 _ _ B4
  simp only [List.getElem?_toArray, List.getElem?_cons_zero, List.getElem?_cons_succ] at s0 s1 k0 k1 k2 k3 k4 r0 r1 q0 q1 q2 q3 q4 q5 a0 a1 a2 a3 a4 a5
  have l0 : w.heap.size < w2.heap.size := by omega
  have l1 : w.heap.size + 1 < w2.heap.size := by omega
  have l2 : w.heap.size + 1 + 1 < w2.heap.size := by omega
  have l3 : w.heap.size + 1 + 1 + 1 < w2.heap.size := by omega
  have l4 : w.heap.size + 1 + 1 + 1 + 1 < w2.heap.size := by omega
  go_upto_region 11 with fail
  obtain ⟨w3, hw3⟩ : ∃ w3, w3 = w2.setCell ⟨w.heap.size + 1 + 1 + 1 + 1, 1, none⟩ (.bool (hasK s.pairs key)) := ⟨_, rfl⟩
  rw [← hw3]
  have zw3 : w3.heap.size = w2.heap.size := by rw [hw3]; simp [World.setCell]
  have bw3 : Below w.heap.size w w3 := by rw [hw3]; exact (bw2.setCell (by show w.heap.size ≤ w.heap.size + 1 + 1 + 1 + 1; omega) _)
  replace B0 : w3.heap[w.heap.size]? = some (.cells #[.slice PA s.pairs.length pc, .slice QA s.queue.length qc] 25 (0, 0)) := by
    rw [hw3]
    refine (heap_setO (by omega)).trans ?_
    exact B0
  replace B1 : w3.heap[w.heap.size + 1]? = some (.cells #[.int .i64 2, .string key, .string val, .string to', .slice gA gn gc] 46 (0, 0)) := by
    rw [hw3]
    refine (heap_setO (by omega)).trans ?_
    exact B1
  replace B2 : w3.heap[w.heap.size + 1 + 1]? = some (.cells #[.slice none 0 0, .slice none 0 0] 25 (0, 0)) := by
    rw [hw3]
    refine (heap_setO (by omega)).trans ?_
    exact B2
  replace B3 : w3.heap[w.heap.size + 1 + 1 + 1]? = some (.cells #[.int .i64 0, .bool false, .string ByteArray.empty, .slice none 0 0, .slice none 0 0, .int .u64 0] 50 (0, 0)) := by
    rw [hw3]
    refine (heap_setO (by omega)).trans ?_
    exact B3
  replace B4 : w3.heap[w.heap.size + 1 + 1 + 1 + 1]? = some (.cells #[.int .i64 0, .bool (hasK s.pairs key), .string ByteArray.empty, .slice none 0 0, .slice none 0 0, .int .u64 0] 50 (0, 0)) := by
    rw [hw3]
    have e0 := B4
    have e1 := heap_setCell_same _ (w.heap.size + 1 + 1 + 1 + 1) 1 _ _ (.bool (hasK s.pairs key)) e0
    exact e1
  clear hw3
  clear s0 s1 fs0 fs1 k0 k1 k2 k3 k4 r0 r1 fr0 fr1 q0 q1 q2 q3 q4 q5 fq0 fq1 fq2 fq3 fq4 fq5 a0 a1 a2 a3 a4 a5 fa0 fa1 fa2 fa3 fa4 fa5 l0 l1 l2 l3 l4
  have s0 := cell_of_row w3 _ 0 _ _ _ B0
  have s1 := cell_of_row w3 _ 1 _ _ _ B0
  have fs0 := frozen_of_row w3 _ 0 _ _ B0
  have fs1 := frozen_of_row w3 _ 1 _ _ B0
  have k0 := cell_of_row w3 _ 0 _ _ _ B1
  have k1 := cell_of_row w3 _ 1 _ _ _ B1
  have k2 := cell_of_row w3 _ 2 _ _ _ B1
  have k3 := cell_of_row w3 _ 3 _ _ _ B1
  have k4 := cell_of_row w3 _ 4 _ _ _ B1
  have r0 := cell_of_row w3 _ 0 _ _ _ B2
  have r1 := cell_of_row w3 _ 1 _ _ _ B2
  have fr0 := frozen_of_row w3 _ 0 _ _ B2
  have fr1 := frozen_of_row w3 _ 1 _ _ B2
  have q0 := cell_of_row w3 _ 0 _ _ _ B3
  have q1 := cell_of_row w3 _ 1 _ _ _ B3
  have q2 := cell_of_row w3 _ 2 _ _ _ B3
  have q3 := cell_of_row w3 _ 3 _ _ _ B3
  have q4 := cell_of_row w3 _ 4 _ _ _ B3
  have q5 := cell_of_row w3 _ 5 _ _ _ B3
  have fq0 := frozen_of_row w3 _ 0 _ _ B3
  have fq1 := frozen_of_row w3 _ 1 _ _ B3
  have fq2 := frozen_of_row w3 _ 2 _ _ B3
  have fq3 := frozen_of_row w3 _ 3 _ _ B3
  have fq4 := frozen_of_row w3 _ 4 _ _ B3
  have fq5 := frozen_of_row w3 _ 5 _ _ B3
  have a0 := cell_of_row w3 _ 0 _ _ _ B4
  have a1 := cell_of_row w3 _ 1 _ _ _ B4
  have a2 := cell_of_row w3 _ 2 _ _ _ B4
  have a3 := cell_of_row w3 _ 3 _ _ _ B4
  have a4 := cell_of_row w3 _ 4 _ _ _ B4
  have a5 := cell_of_row w3 _ 5 _ _ _ B4
  have fa0 := frozen_of_row w3 _ 0 _ _ B4
  have fa1 := frozen_of_row w3 _ 1 _ _ B4
  have fa2 := frozen_of_row w3 _ 2 _ _ B4
  have fa3 := frozen_of_row w3 _ 3 _ _ B4
  have fa4 := frozen_of_row w3 _ 4 _ _ B4
  have fa5 := frozen_of_row w3 _ 5 _ _ B4
  simp only [List.getElem?_toArray, List.getElem?_cons_zero, List.getElem?_cons_succ] at s0 s1 k0 k1 k2 k3 k4 r0 r1 q0 q1 q2 q3 q4 q5 a0 a1 a2 a3 a4 a5
  have l0 : w.heap.size < w3.heap.size := by omega
  have l1 : w.heap.size + 1 < w3.heap.size := by omega
  have l2 : w.heap.size + 1 + 1 < w3.heap.size := by omega
  have l3 : w.heap.size + 1 + 1 + 1 < w3.heap.size := by omega
  have l4 : w.heap.size + 1 + 1 + 1 + 1 < w3.heap.size := by omega
  go_wp2_with fail
  refine (refput_any s PA pc QA qc key val _ (in_below H.out bw3) (by have := HP.out; omega) (by have := HQ.out; omega)).mono ?_
  rintro e w4 hgi
  rw [← HT.out] at hgi
  obtain ⟨PX, px, QX, qx, rfl, hin, hlow, hb4⟩ := hgi
  have bw4 : Below w.heap.size w w4 := bw3.trans (hb4.mono bw3.size)
  have z4 := hb4.size
  clear s0 s1 fs0 fs1 k0 k1 k2 k3 k4 r0 r1 fr0 fr1 q0 q1 q2 q3 q4 q5 fq0 fq1 fq2 fq3 fq4 fq5 a0 a1 a2 a3 a4 a5 fa0 fa1 fa2 fa3 fa4 fa5 l0 l1 l2 l3 l4
  replace B0 : w4.heap[w.heap.size]? = some (.cells #[.slice PA s.pairs.length pc, .slice QA s.queue.length qc] 25 (0, 0)) := (hb4.block _ (by omega)).trans B0
  replace B1 : w4.heap[w.heap.size + 1]? = some (.cells #[.int .i64 2, .string key, .string val, .string to', .slice gA gn gc] 46 (0, 0)) := (hb4.block _ (by omega)).trans B1
  replace B2 : w4.heap[w.heap.size + 1 + 1]? = some (.cells #[.slice none 0 0, .slice none 0 0] 25 (0, 0)) := (hb4.block _ (by omega)).trans B2
  replace B3 : w4.heap[w.heap.size + 1 + 1 + 1]? = some (.cells #[.int .i64 0, .bool false, .string ByteArray.empty, .slice none 0 0, .slice none 0 0, .int .u64 0] 50 (0, 0)) := (hb4.block _ (by omega)).trans B3
  replace B4 : w4.heap[w.heap.size + 1 + 1 + 1 + 1]? = some (.cells #[.int .i64 0, .bool (hasK s.pairs key), .string ByteArray.empty, .slice none 0 0, .slice none 0 0, .int .u64 0] 50 (0, 0)) := (hb4.block _ (by omega)).trans B4
  have s0 := cell_of_row w4 _ 0 _ _ _ B0
  have s1 := cell_of_row w4 _ 1 _ _ _ B0
  have fs0 := frozen_of_row w4 _ 0 _ _ B0
  have fs1 := frozen_of_row w4 _ 1 _ _ B0
  have k0 := cell_of_row w4 _ 0 _ _ _ B1
  have k1 := cell_of_row w4 _ 1 _ _ _ B1
  have k2 := cell_of_row w4 _ 2 _ _ _ B1
  have k3 := cell_of_row w4 _ 3 _ _ _ B1
  have k4 := cell_of_row w4 _ 4 _ _ _ B1
  have r0 := cell_of_row w4 _ 0 _ _ _ B2
  have r1 := cell_of_row w4 _ 1 _ _ _ B2
  have fr0 := frozen_of_row w4 _ 0 _ _ B2
  have fr1 := frozen_of_row w4 _ 1 _ _ B2
  have q0 := cell_of_row w4 _ 0 _ _ _ B3
  have q1 := cell_of_row w4 _ 1 _ _ _ B3
  have q2 := cell_of_row w4 _ 2 _ _ _ B3
  have q3 := cell_of_row w4 _ 3 _ _ _ B3
  have q4 := cell_of_row w4 _ 4 _ _ _ B3
  have q5 := cell_of_row w4 _ 5 _ _ _ B3
  have fq0 := frozen_of_row w4 _ 0 _ _ B3
  have fq1 := frozen_of_row w4 _ 1 _ _ B3
  have fq2 := frozen_of_row w4 _ 2 _ _ B3
  have fq3 := frozen_of_row w4 _ 3 _ _ B3
  have fq4 := frozen_of_row w4 _ 4 _ _ B3
  have fq5 := frozen_of_row w4 _ 5 _ _ B3
  have a0 := cell_of_row w4 _ 0 _ _ _ B4
  have a1 := cell_of_row w4 _ 1 _ _ _ B4
  have a2 := cell_of_row w4 _ 2 _ _ _ B4
  have a3 := cell_of_row w4 _ 3 _ _ _ B4
  have a4 := cell_of_row w4 _ 4 _ _ _ B4
  have a5 := cell_of_row w4 _ 5 _ _ _ B4
  have fa0 := frozen_of_row w4 _ 0 _ _ B4
  have fa1 := frozen_of_row w4 _ 1 _ _ B4
  have fa2 := frozen_of_row w4 _ 2 _ _ B4
  have fa3 := frozen_of_row w4 _ 3 _ _ B4
  have fa4 := frozen_of_row w4 _ 4 _ _ B4
  have fa5 := frozen_of_row w4 _ 5 _ _ B4
  simp only [List.getElem?_toArray, List.getElem?_cons_zero, List.getElem?_cons_succ] at s0 s1 k0 k1 k2 k3 k4 r0 r1 q0 q1 q2 q3 q4 q5 a0 a1 a2 a3 a4 a5
  have l0 : w.heap.size < w4.heap.size := by omega
  have l1 : w.heap.size + 1 < w4.heap.size := by omega
  have l2 : w.heap.size + 1 + 1 < w4.heap.size := by omega
  have l3 : w.heap.size + 1 + 1 + 1 < w4.heap.size := by omega
  have l4 : w.heap.size + 1 + 1 + 1 + 1 < w4.heap.size := by omega
  go_upto_region 35 with fail
  obtain ⟨w5, hw5⟩ : ∃ w5, w5 = (w4.setCell ⟨w.heap.size, 0, none⟩ (.slice PX T.pairs.length px)).setCell ⟨w.heap.size, 1, none⟩ (.slice QX T.queue.length qx) := ⟨_, rfl⟩
  rw [← hw5]
  have zw5 : w5.heap.size = w4.heap.size := by rw [hw5]; simp [World.setCell]
  have bw5 : Below w.heap.size w w5 := by rw [hw5]; exact ((bw4.setCell (by show w.heap.size ≤ w.heap.size; omega) _).setCell (by show w.heap.size ≤ w.heap.size; omega) _)
  replace B0 : w5.heap[w.heap.size]? = some (.cells #[.slice PX T.pairs.length px, .slice QX T.queue.length qx] 25 (0, 0)) := by
    rw [hw5]
    have e0 := B0
    have e1 := heap_setCell_same _ (w.heap.size) 0 _ _ (.slice PX T.pairs.length px) e0
    have e2 := heap_setCell_same _ (w.heap.size) 1 _ _ (.slice QX T.queue.length qx) e1
    exact e2
  replace B1 : w5.heap[w.heap.size + 1]? = some (.cells #[.int .i64 2, .string key, .string val, .string to', .slice gA gn gc] 46 (0, 0)) := by
    rw [hw5]
    refine (heap_setO (by omega)).trans ?_
    refine (heap_setO (by omega)).trans ?_
    exact B1
  replace B2 : w5.heap[w.heap.size + 1 + 1]? = some (.cells #[.slice none 0 0, .slice none 0 0] 25 (0, 0)) := by
    rw [hw5]
    refine (heap_setO (by omega)).trans ?_
    refine (heap_setO (by omega)).trans ?_
    exact B2
  replace B3 : w5.heap[w.heap.size + 1 + 1 + 1]? = some (.cells #[.int .i64 0, .bool false, .string ByteArray.empty, .slice none 0 0, .slice none 0 0, .int .u64 0] 50 (0, 0)) := by
    rw [hw5]
    refine (heap_setO (by omega)).trans ?_
    refine (heap_setO (by omega)).trans ?_
    exact B3
  replace B4 : w5.heap[w.heap.size + 1 + 1 + 1 + 1]? = some (.cells #[.int .i64 0, .bool (hasK s.pairs key), .string ByteArray.empty, .slice none 0 0, .slice none 0 0, .int .u64 0] 50 (0, 0)) := by
    rw [hw5]
    refine (heap_setO (by omega)).trans ?_
    refine (heap_setO (by omega)).trans ?_
    exact B4
  have HIN := hid (show ShIn w5 w4.heap.size PX px QX qx T from by rw [hw5]; exact (ShIn.lowCell' (ShIn.lowCell' hin hlow (by omega) _) hlow (by omega) _))
  clear hw5
  clear s0 s1 fs0 fs1 k0 k1 k2 k3 k4 r0 r1 fr0 fr1 q0 q1 q2 q3 q4 q5 fq0 fq1 fq2 fq3 fq4 fq5 a0 a1 a2 a3 a4 a5 fa0 fa1 fa2 fa3 fa4 fa5 l0 l1 l2 l3 l4
  have s0 := cell_of_row w5 _ 0 _ _ _ B0
  have s1 := cell_of_row w5 _ 1 _ _ _ B0
  have fs0 := frozen_of_row w5 _ 0 _ _ B0
  have fs1 := frozen_of_row w5 _ 1 _ _ B0
  have k0 := cell_of_row w5 _ 0 _ _ _ B1
  have k1 := cell_of_row w5 _ 1 _ _ _ B1
  have k2 := cell_of_row w5 _ 2 _ _ _ B1
  have k3 := cell_of_row w5 _ 3 _ _ _ B1
  have k4 := cell_of_row w5 _ 4 _ _ _ B1
  have r0 := cell_of_row w5 _ 0 _ _ _ B2
  have r1 := cell_of_row w5 _ 1 _ _ _ B2
  have fr0 := frozen_of_row w5 _ 0 _ _ B2
  have fr1 := frozen_of_row w5 _ 1 _ _ B2
  have q0 := cell_of_row w5 _ 0 _ _ _ B3
  have q1 := cell_of_row w5 _ 1 _ _ _ B3
  have q2 := cell_of_row w5 _ 2 _ _ _ B3
  have q3 := cell_of_row w5 _ 3 _ _ _ B3
  have q4 := cell_of_row w5 _ 4 _ _ _ B3
  have q5 := cell_of_row w5 _ 5 _ _ _ B3
  have fq0 := frozen_of_row w5 _ 0 _ _ B3
  have fq1 := frozen_of_row w5 _ 1 _ _ B3
  have fq2 := frozen_of_row w5 _ 2 _ _ B3
  have fq3 := frozen_of_row w5 _ 3 _ _ B3
  have fq4 := frozen_of_row w5 _ 4 _ _ B3
  have fq5 := frozen_of_row w5 _ 5 _ _ B3
  have a0 := cell_of_row w5 _ 0 _ _ _ B4
  have a1 := cell_of_row w5 _ 1 _ _ _ B4
  have a2 := cell_of_row w5 _ 2 _ _ _ B4
  have a3 := cell_of_row w5 _ 3 _ _ _ B4
  have a4 := cell_of_row w5 _ 4 _ _ _ B4
  have a5 := cell_of_row w5 _ 5 _ _ _ B4
  have fa0 := frozen_of_row w5 _ 0 _ _ B4
  have fa1 := frozen_of_row w5 _ 1 _ _ B4
  have fa2 := frozen_of_row w5 _ 2 _ _ B4
  have fa3 := frozen_of_row w5 _ 3 _ _ B4
  have fa4 := frozen_of_row w5 _ 4 _ _ B4
  have fa5 := frozen_of_row w5 _ 5 _ _ B4
  simp only [List.getElem?_toArray, List.getElem?_cons_zero, List.getElem?_cons_succ] at s0 s1 k0 k1 k2 k3 k4 r0 r1 q0 q1 q2 q3 q4 q5 a0 a1 a2 a3 a4 a5
  have l0 : w.heap.size < w5.heap.size := by omega
  have l1 : w.heap.size + 1 < w5.heap.size := by omega
  have l2 : w.heap.size + 1 + 1 < w5.heap.size := by omega
  have l3 : w.heap.size + 1 + 1 + 1 < w5.heap.size := by omega
  have l4 : w.heap.size + 1 + 1 + 1 + 1 < w5.heap.size := by omega
  go_region
  all_goals
    go_wp2_with fail
    refine bodyPost_ret (v := .tuple #[.agg #[.slice PX T.pairs.length px, .slice QX T.queue.length qx], .agg #[.int .i64 0, .bool (hasK s.pairs key), .string ByteArray.empty, .slice none 0 0, .slice none 0 0, .int .u64 0]]) (by simp [results, Tryz.results30, go_sem, r0, r1, q0, q1, q2, q3, q4, q5]) rfl ⟨PX, px, QX, qx, none, 0, none, 0, rfl, ?_, .inl ⟨hlow.1.mono (by omega), hlow.2.mono (by omega)⟩, Arr.nil, Nat.le_refl _, by omega, Arr.nil, Nat.le_refl _, by omega, ?_⟩
    · refine ShIn.more (B := w4.heap.size) ?_ (by simp; omega)
      repeat (first | with_reducible exact HIN.out | with_reducible refine ShIn.dr' ?_ | with_reducible refine ShIn.lowCell' ?_ hlow (by omega) _)
    · exact (by repeat (first | with_reducible exact Below.refl _ _ | with_reducible assumption | with_reducible refine Below.drew ?_ | with_reducible refine below_drewN ?_ _ | with_reducible refine Below.alloc ?_ (by first | omega | (simp; done) | (simp; omega)) _ | with_reducible refine Below.setCell ?_ (by first | omega | (simp; done) | (simp; omega)) _))
set_option maxHeartbeats 4000000 in
set_option maxRecDepth 100000 in
theorem refap_k3 (s : Shelf) (PA : Option Addr) (pc : Nat) (QA : Option Addr) (qc : Nat) (key val to' : ByteArray) (gA : Option Addr) (gn gc : Nat) (g : List Call0) (w : World) (h : ShIn w w.heap.size PA pc QA qc s) (hp : s.pairs.length ≤ 90000) (hq : s.queue.length ≤ 90000) (hc : CallIn w w.heap.size ⟨3, key, val, to', gA, gn, gc⟩ g) (hgood : goodI ⟨3, key, val, to', gA, gn, gc⟩ g = 0) :
    Calls Tryz.prog 30 #[.agg #[.slice PA s.pairs.length pc, .slice QA s.queue.length qc], .agg #[.int .i64 3, .string key, .string val, .string to', .slice gA gn gc]] w (GivesRA PA QA s ⟨dropK key s.pairs, s.queue⟩ { ans0 0 with found := hasK s.pairs key } w) := by
  have H := hid h
  have HC := hid hc
  have HG := hid hgood
  have HP := hid hp
  have HQ := hid hq
  have hplen := h.plen
  have hpmax := h.pmax
  have hqlen := h.qlen
  have hqmax := h.qmax
  clear h hc hgood hp hq
  obtain ⟨T, hT⟩ : ∃ T : Shelf, T = ⟨dropK key s.pairs, s.queue⟩ := ⟨_, rfl⟩
  rw [← hT]
  have HT := hid hT
  clear hT
  go_enter Tryz.func30, Tryz.ntmps30
  go_wp2_with fail
  refine (refgood_any ⟨3, key, val, to', gA, gn, gc⟩ g _ ((HC.out.below (by repeat (first | exact Below.refl _ _ | assumption | refine Below.drew ?_ | refine below_drewN ?_ _ | refine Below.alloc ?_ (by first | omega | (simp; done) | (simp; omega)) _ | refine Below.setCell ?_ (by first | omega | (simp; done) | (simp; omega)) _))).more (by first | omega | (simp; done) | (simp; omega)))).mono ?_
  rintro e w1 ⟨rfl, hb1⟩
  rw [HG.out]
  have z1 := hb1.size
  simp only [World.size_alloc] at z1
  have bw1 : Below w.heap.size w w1 := Below.trans (by repeat (first | exact Below.refl _ _ | assumption | refine Below.drew ?_ | refine below_drewN ?_ _ | refine Below.alloc ?_ (by first | omega | (simp; done) | (simp; omega)) _ | refine Below.setCell ?_ (by first | omega | (simp; done) | (simp; omega)) _)) (hb1.mono (show w.heap.size ≤ _ from (by first | omega | (simp; done) | (simp; omega))))
  have B0 : w1.heap[w.heap.size]? = some (.cells #[.slice PA s.pairs.length pc, .slice QA s.queue.length qc] 25 (0, 0)) := (hb1.block _ (by first | (simp; done) | (simp; omega))).trans (by repeat (first | with_reducible exact heap_newR (by first | omega | (simp; done) | (simp; omega)) | exact heap_newR (by first | omega | (simp; done) | (simp; omega)) | (with_reducible refine (Below.heap_alloc _ _ _ ?_).trans ?_; exact (by first | omega | (simp; done) | (simp; omega)))))
  have B1 : w1.heap[w.heap.size + 1]? = some (.cells #[.int .i64 3, .string key, .string val, .string to', .slice gA gn gc] 46 (0, 0)) := (hb1.block _ (by first | (simp; done) | (simp; omega))).trans (by repeat (first | with_reducible exact heap_newR (by first | omega | (simp; done) | (simp; omega)) | exact heap_newR (by first | omega | (simp; done) | (simp; omega)) | (with_reducible refine (Below.heap_alloc _ _ _ ?_).trans ?_; exact (by first | omega | (simp; done) | (simp; omega)))))
  have B2 : w1.heap[w.heap.size + 1 + 1]? = some (.cells #[.slice none 0 0, .slice none 0 0] 25 (0, 0)) := (hb1.block _ (by first | (simp; done) | (simp; omega))).trans (by repeat (first | with_reducible exact heap_newR (by first | omega | (simp; done) | (simp; omega)) | exact heap_newR (by first | omega | (simp; done) | (simp; omega)) | (with_reducible refine (Below.heap_alloc _ _ _ ?_).trans ?_; exact (by first | omega | (simp; done) | (simp; omega)))))
  have B3 : w1.heap[w.heap.size + 1 + 1 + 1]? = some (.cells #[.int .i64 0, .bool false, .string ByteArray.empty, .slice none 0 0, .slice none 0 0, .int .u64 0] 50 (0, 0)) := (hb1.block _ (by first | (simp; done) | (simp; omega))).trans (by repeat (first | with_reducible exact heap_newR (by first | omega | (simp; done) | (simp; omega)) | exact heap_newR (by first | omega | (simp; done) | (simp; omega)) | (with_reducible refine (Below.heap_alloc _ _ _ ?_).trans ?_; exact (by first | omega | (simp; done) | (simp; omega)))))
  have B4 : w1.heap[w.heap.size + 1 + 1 + 1 + 1]? = some (.cells #[.int .i64 0, .bool false, .string ByteArray.empty, .slice none 0 0, .slice none 0 0, .int .u64 0] 50 (0, 0)) := (hb1.block _ (by first | (simp; done) | (simp; omega))).trans (by repeat (first | with_reducible exact heap_newR (by first | omega | (simp; done) | (simp; omega)) | exact heap_newR (by first | omega | (simp; done) | (simp; omega)) | (with_reducible refine (Below.heap_alloc _ _ _ ?_).trans ?_; exact (by first | omega | (simp; done) | (simp; omega)))))
  clear hb1
  have s0 := cell_of_row w1 _ 0 _ _ _ B0
  have s1 := cell_of_row w1 _ 1 _ _ _ B0
  have fs0 := frozen_of_row w1 _ 0 _ _ B0
  have fs1 := frozen_of_row w1 _ 1 _ _ B0
  have k0 := cell_of_row w1 _ 0 _ _ _ B1
  have k1 := cell_of_row w1 _ 1 _ _ _ B1
  have k2 := cell_of_row w1 _ 2 _ _ _ B1
  have k3 := cell_of_row w1 _ 3 _ _ _ B1
  have k4 := cell_of_row w1 _ 4 _ _ _ B1
  have r0 := cell_of_row w1 _ 0 _ _ _ B2
  have r1 := cell_of_row w1 _ 1 _ _ _ B2
  have fr0 := frozen_of_row w1 _ 0 _ _ B2
  have fr1 := frozen_of_row w1 _ 1 _ _ B2
  have q0 := cell_of_row w1 _ 0 _ _ _ B3
  have q1 := cell_of_row w1 _ 1 _ _ _ B3
  have q2 := cell_of_row w1 _ 2 _ _ _ B3
  have q3 := cell_of_row w1 _ 3 _ _ _ B3
  have q4 := cell_of_row w1 _ 4 _ _ _ B3
  have q5 := cell_of_row w1 _ 5 _ _ _ B3
  have fq0 := frozen_of_row w1 _ 0 _ _ B3
  have fq1 := frozen_of_row w1 _ 1 _ _ B3
  have fq2 := frozen_of_row w1 _ 2 _ _ B3
  have fq3 := frozen_of_row w1 _ 3 _ _ B3
  have fq4 := frozen_of_row w1 _ 4 _ _ B3
  have fq5 := frozen_of_row w1 _ 5 _ _ B3
  have a0 := cell_of_row w1 _ 0 _ _ _ B4
  have a1 := cell_of_row w1 _ 1 _ _ _ B4
  have a2 := cell_of_row w1 _ 2 _ _ _ B4
  have a3 := cell_of_row w1 _ 3 _ _ _ B4
  have a4 := cell_of_row w1 _ 4 _ _ _ B4
  have a5 := cell_of_row w1 _ 5 _ _ _ B4
  have fa0 := frozen_of_row w1 _ 0 _ _ B4
  have fa1 := frozen_of_row w1 _ 1 _ _ B4
  have fa2 := frozen_of_row w1 _ 2 _ _ B4
  have fa3 := frozen_of_row w1 _ 3 _ _ B4
  have fa4 := frozen_of_row w1 _ 4 _ _ B4
  have fa5 := frozen_of_row w1 _ 5 _ _ B4
  simp only [List.getElem?_toArray, List.getElem?_cons_zero, List.getElem?_cons_succ] at s0 s1 k0 k1 k2 k3 k4 r0 r1 q0 q1 q2 q3 q4 q5 a0 a1 a2 a3 a4 a5
  have l0 : w.heap.size < w1.heap.size := by omega
  have l1 : w.heap.size + 1 < w1.heap.size := by omega
  have l2 : w.heap.size + 1 + 1 < w1.heap.size := by omega
  have l3 : w.heap.size + 1 + 1 + 1 < w1.heap.size := by omega
  have l4 : w.heap.size + 1 + 1 + 1 + 1 < w1.heap.size := by omega
  go_wp2_with fail
  refine (refget_any s PA pc QA s.queue.length qc key _ (in_below H.out bw1).pairs hplen hpmax).mono ?_
  rintro e w2 ⟨rfl, hb2⟩
  rw [getD'_hasK]
  have bw2 : Below w.heap.size w w2 := bw1.trans (hb2.mono bw1.size)
  have z2 := hb2.size
  clear s0 s1 fs0 fs1 k0 k1 k2 k3 k4 r0 r1 fr0 fr1 q0 q1 q2 q3 q4 q5 fq0 fq1 fq2 fq3 fq4 fq5 a0 a1 a2 a3 a4 a5 fa0 fa1 fa2 fa3 fa4 fa5 l0 l1 l2 l3 l4
  replace B0 : w2.heap[w.heap.size]? = some (.cells #[.slice PA s.pairs.length pc, .slice QA s.queue.length qc] 25 (0, 0)) := (hb2.block _ (by omega)).trans B0
  replace B1 : w2.heap[w.heap.size + 1]? = some (.cells #[.int .i64 3, .string key, .string val, .string to', .slice gA gn gc] 46 (0, 0)) := (hb2.block _ (by omega)).trans B1
  replace B2 : w2.heap[w.heap.size + 1 + 1]? = some (.cells #[.slice none 0 0, .slice none 0 0] 25 (0, 0)) := (hb2.block _ (by omega)).trans B2
  replace B3 : w2.heap[w.heap.size + 1 + 1 + 1]? = some (.cells #[.int .i64 0, .bool false, .string ByteArray.empty, .slice none 0 0, .slice none 0 0, .int .u64 0] 50 (0, 0)) := (hb2.block _ (by omega)).trans B3
  replace B4 : w2.heap[w.heap.size + 1 + 1 + 1 + 1]? = some (.cells #[.int .i64 0, .bool false, .string ByteArray.empty, .slice none 0 0, .slice none 0 0, .int .u64 0] 50 (0, 0)) := (hb2.block _ (by omega)).trans B4
  have s0 := cell_of_row w2 _ 0 _ _ _ B0
  have s1 := cell_of_row w2 _ 1 _ _ _ B0
  have fs0 := frozen_of_row w2 _ 0 _ _ B0
  have fs1 := frozen_of_row w2 _ 1 _ _ B0
  have k0 := cell_of_row w2 _ 0 _ _ _ B1
  have k1 := cell_of_row w2 _ 1 _ _ _ B1
  have k2 := cell_of_row w2 _ 2 _ _ _ B1
  have k3 := cell_of_row w2 _ 3 _ _ _ B1
  have k4 := cell_of_row w2 _ 4 _ _ _ B1
  have r0 := cell_of_row w2 _ 0 _ _ _ B2
  have r1 := cell_of_row w2 _ 1 _ _ _ B2
  have fr0 := frozen_of_row w2 _ 0 _ _ B2
  have fr1 := frozen_of_row w2 _ 1 _ _ B2
  have q0 := cell_of_row w2 _ 0 _ _ _ B3
  have q1 := cell_of_row w2 _ 1 _ _ _ B3
  have q2 := cell_of_row w2 _ 2 _ _ _ B3
  have q3 := cell_of_row w2 _ 3 _ _ _ B3
  have q4 := cell_of_row w2 _ 4 _ _ _ B3
  have q5 := cell_of_row w2 _ 5 _ _ _ B3
  have fq0 := frozen_of_row w2 _ 0 _ _ B3
  have fq1 := frozen_of_row w2 _ 1 _ _ B3
  have fq2 := frozen_of_row w2 _ 2 _ _ B3
  have fq3 := frozen_of_row w2 _ 3 _ _ B3
  have fq4 := frozen_of_row w2 _ 4 _ _ B3
  have fq5 := frozen_of_row w2 _ 5 _ _ B3
  have a0 := cell_of_row w2 _ 0 _ _ _ B4
  have a1 := cell_of_row w2 _ 1 _ _ _ B4
  have a2 := cell_of_row w2 _ 2 _ _ _ B4
  have a3 := cell_of_row w2 _ 3 _ _ _ B4
  have a4 := cell_of_row w2 _ 4 _ _ _ B4
  have a5 := cell_of_row w2 _ 5 _ _ _ B4
  have fa0 := frozen_of_row w2 _ 0 _ _ B4
  have fa1 := frozen_of_row w2 _ 1 _ _ B4
  have fa2 := frozen_of_row w2 _ 2 _ _ B4
  have fa3 := frozen_of_row w2 _ 3 _ _ B4
  have fa4 := frozen_of_row w2 _ 4 _ _ B4
  have fa5 := frozen_of_row w2 _ 5 _ _ B4
  simp only [List.getElem?_toArray, List.getElem?_cons_zero, List.getElem?_cons_succ] at s0 s1 k0 k1 k2 k3 k4 r0 r1 q0 q1 q2 q3 q4 q5 a0 a1 a2 a3 a4 a5
  have l0 : w.heap.size < w2.heap.size := by omega
  have l1 : w.heap.size + 1 < w2.heap.size := by omega
  have l2 : w.heap.size + 1 + 1 < w2.heap.size := by omega
  have l3 : w.heap.size + 1 + 1 + 1 < w2.heap.size := by omega
  have l4 : w.heap.size + 1 + 1 + 1 + 1 < w2.heap.size := by omega
  go_upto_region 14 with fail
  obtain ⟨w3, hw3⟩ : ∃ w3, w3 = w2.setCell ⟨w.heap.size + 1 + 1 + 1 + 1, 1, none⟩ (.bool (hasK s.pairs key)) := ⟨_, rfl⟩
  rw [← hw3]
  have zw3 : w3.heap.size = w2.heap.size := by rw [hw3]; simp [World.setCell]
  have bw3 : Below w.heap.size w w3 := by rw [hw3]; exact (bw2.setCell (by show w.heap.size ≤ w.heap.size + 1 + 1 + 1 + 1; omega) _)
  replace B0 : w3.heap[w.heap.size]? = some (.cells #[.slice PA s.pairs.length pc, .slice QA s.queue.length qc] 25 (0, 0)) := by
    rw [hw3]
    refine (heap_setO (by omega)).trans ?_
    exact B0
  replace B1 : w3.heap[w.heap.size + 1]? = some (.cells #[.int .i64 3, .string key, .string val, .string to', .slice gA gn gc] 46 (0, 0)) := by
    rw [hw3]
    refine (heap_setO (by omega)).trans ?_
    exact B1
  replace B2 : w3.heap[w.heap.size + 1 + 1]? = some (.cells #[.slice none 0 0, .slice none 0 0] 25 (0, 0)) := by
    rw [hw3]
    refine (heap_setO (by omega)).trans ?_
    exact B2
  replace B3 : w3.heap[w.heap.size + 1 + 1 + 1]? = some (.cells #[.int .i64 0, .bool false, .string ByteArray.empty, .slice none 0 0, .slice none 0 0, .int .u64 0] 50 (0, 0)) := by
    rw [hw3]
    refine (heap_setO (by omega)).trans ?_
    exact B3
  replace B4 : w3.heap[w.heap.size + 1 + 1 + 1 + 1]? = some (.cells #[.int .i64 0, .bool (hasK s.pairs key), .string ByteArray.empty, .slice none 0 0, .slice none 0 0, .int .u64 0] 50 (0, 0)) := by
    rw [hw3]
    have e0 := B4
    have e1 := heap_setCell_same _ (w.heap.size + 1 + 1 + 1 + 1) 1 _ _ (.bool (hasK s.pairs key)) e0
    exact e1
  clear hw3
  clear s0 s1 fs0 fs1 k0 k1 k2 k3 k4 r0 r1 fr0 fr1 q0 q1 q2 q3 q4 q5 fq0 fq1 fq2 fq3 fq4 fq5 a0 a1 a2 a3 a4 a5 fa0 fa1 fa2 fa3 fa4 fa5 l0 l1 l2 l3 l4
  have s0 := cell_of_row w3 _ 0 _ _ _ B0
  have s1 := cell_of_row w3 _ 1 _ _ _ B0
  have fs0 := frozen_of_row w3 _ 0 _ _ B0
  have fs1 := frozen_of_row w3 _ 1 _ _ B0
  have k0 := cell_of_row w3 _ 0 _ _ _ B1
  have k1 := cell_of_row w3 _ 1 _ _ _ B1
  have k2 := cell_of_row w3 _ 2 _ _ _ B1
  have k3 := cell_of_row w3 _ 3 _ _ _ B1
  have k4 := cell_of_row w3 _ 4 _ _ _ B1
  have r0 := cell_of_row w3 _ 0 _ _ _ B2
  have r1 := cell_of_row w3 _ 1 _ _ _ B2
  have fr0 := frozen_of_row w3 _ 0 _ _ B2
  have fr1 := frozen_of_row w3 _ 1 _ _ B2
  have q0 := cell_of_row w3 _ 0 _ _ _ B3
  have q1 := cell_of_row w3 _ 1 _ _ _ B3
  have q2 := cell_of_row w3 _ 2 _ _ _ B3
  have q3 := cell_of_row w3 _ 3 _ _ _ B3
  have q4 := cell_of_row w3 _ 4 _ _ _ B3
  have q5 := cell_of_row w3 _ 5 _ _ _ B3
  have fq0 := frozen_of_row w3 _ 0 _ _ B3
  have fq1 := frozen_of_row w3 _ 1 _ _ B3
  have fq2 := frozen_of_row w3 _ 2 _ _ B3
  have fq3 := frozen_of_row w3 _ 3 _ _ B3
  have fq4 := frozen_of_row w3 _ 4 _ _ B3
  have fq5 := frozen_of_row w3 _ 5 _ _ B3
  have a0 := cell_of_row w3 _ 0 _ _ _ B4
  have a1 := cell_of_row w3 _ 1 _ _ _ B4
  have a2 := cell_of_row w3 _ 2 _ _ _ B4
  have a3 := cell_of_row w3 _ 3 _ _ _ B4
  have a4 := cell_of_row w3 _ 4 _ _ _ B4
  have a5 := cell_of_row w3 _ 5 _ _ _ B4
  have fa0 := frozen_of_row w3 _ 0 _ _ B4
  have fa1 := frozen_of_row w3 _ 1 _ _ B4
  have fa2 := frozen_of_row w3 _ 2 _ _ B4
  have fa3 := frozen_of_row w3 _ 3 _ _ B4
  have fa4 := frozen_of_row w3 _ 4 _ _ B4
  have fa5 := frozen_of_row w3 _ 5 _ _ B4
  simp only [List.getElem?_toArray, List.getElem?_cons_zero, List.getElem?_cons_succ] at s0 s1 k0 k1 k2 k3 k4 r0 r1 q0 q1 q2 q3 q4 q5 a0 a1 a2 a3 a4 a5
  have l0 : w.heap.size < w3.heap.size := by omega
  have l1 : w.heap.size + 1 < w3.heap.size := by omega
  have l2 : w.heap.size + 1 + 1 < w3.heap.size := by omega
  have l3 : w.heap.size + 1 + 1 + 1 < w3.heap.size := by omega
  have l4 : w.heap.size + 1 + 1 + 1 + 1 < w3.heap.size := by omega
  go_wp2_with fail
  refine (refdel_any s PA pc QA qc key _ (in_below H.out bw3) (by have := HP.out; omega) (by have := HQ.out; omega)).mono ?_
  rintro e w4 hgi
  rw [← HT.out] at hgi
  obtain ⟨PX, px, QX, qx, rfl, hin, hlow, hb4⟩ := hgi
  have bw4 : Below w.heap.size w w4 := bw3.trans (hb4.mono bw3.size)
  have z4 := hb4.size
  clear s0 s1 fs0 fs1 k0 k1 k2 k3 k4 r0 r1 fr0 fr1 q0 q1 q2 q3 q4 q5 fq0 fq1 fq2 fq3 fq4 fq5 a0 a1 a2 a3 a4 a5 fa0 fa1 fa2 fa3 fa4 fa5 l0 l1 l2 l3 l4
  replace B0 : w4.heap[w.heap.size]? = some (.cells #[.slice PA s.pairs.length pc, .slice QA s.queue.length qc] 25 (0, 0)) := (hb4.block _ (by omega)).trans B0
  replace B1 : w4.heap[w.heap.size + 1]? = some (.cells #[.int .i64 3, .string key, .string val, .string to', .slice gA gn gc] 46 (0, 0)) := (hb4.block _ (by omega)).trans B1
  replace B2 : w4.heap[w.heap.size + 1 + 1]? = some (.cells #[.slice none 0 0, .slice none 0 0] 25 (0, 0)) := (hb4.block _ (by omega)).trans B2
  replace B3 : w4.heap[w.heap.size + 1 + 1 + 1]? = some (.cells #[.int .i64 0, .bool false, .string ByteArray.empty, .slice none 0 0, .slice none 0 0, .int .u64 0] 50 (0, 0)) := (hb4.block _ (by omega)).trans B3
  replace B4 : w4.heap[w.heap.size + 1 + 1 + 1 + 1]? = some (.cells #[.int .i64 0, .bool (hasK s.pairs key), .string ByteArray.empty, .slice none 0 0, .slice none 0 0, .int .u64 0] 50 (0, 0)) := (hb4.block _ (by omega)).trans B4
  have s0 := cell_of_row w4 _ 0 _ _ _ B0
  have s1 := cell_of_row w4 _ 1 _ _ _ B0
  have fs0 := frozen_of_row w4 _ 0 _ _ B0
  have fs1 := frozen_of_row w4 _ 1 _ _ B0
  have k0 := cell_of_row w4 _ 0 _ _ _ B1
  have k1 := cell_of_row w4 _ 1 _ _ _ B1
  have k2 := cell_of_row w4 _ 2 _ _ _ B1
  have k3 := cell_of_row w4 _ 3 _ _ _ B1
  have k4 := cell_of_row w4 _ 4 _ _ _ B1
  have r0 := cell_of_row w4 _ 0 _ _ _ B2
  have r1 := cell_of_row w4 _ 1 _ _ _ B2
  have fr0 := frozen_of_row w4 _ 0 _ _ B2
  have fr1 := frozen_of_row w4 _ 1 _ _ B2
  have q0 := cell_of_row w4 _ 0 _ _ _ B3
  have q1 := cell_of_row w4 _ 1 _ _ _ B3
  have q2 := cell_of_row w4 _ 2 _ _ _ B3
  have q3 := cell_of_row w4 _ 3 _ _ _ B3
  have q4 := cell_of_row w4 _ 4 _ _ _ B3
  have q5 := cell_of_row w4 _ 5 _ _ _ B3
  have fq0 := frozen_of_row w4 _ 0 _ _ B3
  have fq1 := frozen_of_row w4 _ 1 _ _ B3
  have fq2 := frozen_of_row w4 _ 2 _ _ B3
  have fq3 := frozen_of_row w4 _ 3 _ _ B3
  have fq4 := frozen_of_row w4 _ 4 _ _ B3
  have fq5 := frozen_of_row w4 _ 5 _ _ B3
  have a0 := cell_of_row w4 _ 0 _ _ _ B4
  have a1 := cell_of_row w4 _ 1 _ _ _ B4
  have a2 := cell_of_row w4 _ 2 _ _ _ B4
  have a3 := cell_of_row w4 _ 3 _ _ _ B4
  have a4 := cell_of_row w4 _ 4 _ _ _ B4
  have a5 := cell_of_row w4 _ 5 _ _ _ B4
  have fa0 := frozen_of_row w4 _ 0 _ _ B4
  have fa1 := frozen_of_row w4 _ 1 _ _ B4
  have fa2 := frozen_of_row w4 _ 2 _ _ B4
  have fa3 := frozen_of_row w4 _ 3 _ _ B4
  have fa4 := frozen_of_row w4 _ 4 _ _ B4
  have fa5 := frozen_of_row w4 _ 5 _ _ B4
  simp only [List.getElem?_toArray, List.getElem?_cons_zero, List.getElem?_cons_succ] at s0 s1 k0 k1 k2 k3 k4 r0 r1 q0 q1 q2 q3 q4 q5 a0 a1 a2 a3 a4 a5
  have l0 : w.heap.size < w4.heap.size := by omega
  have l1 : w.heap.size + 1 < w4.heap.size := by omega
  have l2 : w.heap.size + 1 + 1 < w4.heap.size := by omega
  have l3 : w.heap.size + 1 + 1 + 1 < w4.heap.size := by omega
  have l4 : w.heap.size + 1 + 1 + 1 + 1 < w4.heap.size := by omega
  go_upto_region 35 with fail
  obtain ⟨w5, hw5⟩ : ∃ w5, w5 = (w4.setCell ⟨w.heap.size, 0, none⟩ (.slice PX T.pairs.length px)).setCell ⟨w.heap.size, 1, none⟩ (.slice QX T.queue.length qx) := ⟨_, rfl⟩
  rw [← hw5]
  have zw5 : w5.heap.size = w4.heap.size := by rw [hw5]; simp [World.setCell]
  have bw5 : Below w.heap.size w w5 := by rw [hw5]; exact ((bw4.setCell (by show w.heap.size ≤ w.heap.size; omega) _).setCell (by show w.heap.size ≤ w.heap.size; omega) _)
  replace B0 : w5.heap[w.heap.size]? = some (.cells #[.slice PX T.pairs.length px, .slice QX T.queue.length qx] 25 (0, 0)) := by
    rw [hw5]
    have e0 := B0
    have e1 := heap_setCell_same _ (w.heap.size) 0 _ _ (.slice PX T.pairs.length px) e0
    have e2 := heap_setCell_same _ (w.heap.size) 1 _ _ (.slice QX T.queue.length qx) e1
    exact e2
  replace B1 : w5.heap[w.heap.size + 1]? = some (.cells #[.int .i64 3, .string key, .string val, .string to', .slice gA gn gc] 46 (0, 0)) := by
    rw [hw5]
    refine (heap_setO (by omega)).trans ?_
    refine (heap_setO (by omega)).trans ?_
    exact B1
  replace B2 : w5.heap[w.heap.size + 1 + 1]? = some (.cells #[.slice none 0 0, .slice none 0 0] 25 (0, 0)) := by
    rw [hw5]
    refine (heap_setO (by omega)).trans ?_
    refine (heap_setO (by omega)).trans ?_
    exact B2
  replace B3 : w5.heap[w.heap.size + 1 + 1 + 1]? = some (.cells #[.int .i64 0, .bool false, .string ByteArray.empty, .slice none 0 0, .slice none 0 0, .int .u64 0] 50 (0, 0)) := by
    rw [hw5]
    refine (heap_setO (by omega)).trans ?_
    refine (heap_setO (by omega)).trans ?_
    exact B3
  replace B4 : w5.heap[w.heap.size + 1 + 1 + 1 + 1]? = some (.cells #[.int .i64 0, .bool (hasK s.pairs key), .string ByteArray.empty, .slice none 0 0, .slice none 0 0, .int .u64 0] 50 (0, 0)) := by
    rw [hw5]
    refine (heap_setO (by omega)).trans ?_
    refine (heap_setO (by omega)).trans ?_
    exact B4
  have HIN := hid (show ShIn w5 w4.heap.size PX px QX qx T from by rw [hw5]; exact (ShIn.lowCell' (ShIn.lowCell' hin hlow (by omega) _) hlow (by omega) _))
  clear hw5
  clear s0 s1 fs0 fs1 k0 k1 k2 k3 k4 r0 r1 fr0 fr1 q0 q1 q2 q3 q4 q5 fq0 fq1 fq2 fq3 fq4 fq5 a0 a1 a2 a3 a4 a5 fa0 fa1 fa2 fa3 fa4 fa5 l0 l1 l2 l3 l4
  have s0 := cell_of_row w5 _ 0 _ _ _ B0
  have s1 := cell_of_row w5 _ 1 _ _ _ B0
  have fs0 := frozen_of_row w5 _ 0 _ _ B0
  have fs1 := frozen_of_row w5 _ 1 _ _ B0
  have k0 := cell_of_row w5 _ 0 _ _ _ B1
  have k1 := cell_of_row w5 _ 1 _ _ _ B1
  have k2 := cell_of_row w5 _ 2 _ _ _ B1
  have k3 := cell_of_row w5 _ 3 _ _ _ B1
  have k4 := cell_of_row w5 _ 4 _ _ _ B1
  have r0 := cell_of_row w5 _ 0 _ _ _ B2
  have r1 := cell_of_row w5 _ 1 _ _ _ B2
  have fr0 := frozen_of_row w5 _ 0 _ _ B2
  have fr1 := frozen_of_row w5 _ 1 _ _ B2
  have q0 := cell_of_row w5 _ 0 _ _ _ B3
  have q1 := cell_of_row w5 _ 1 _ _ _ B3
  have q2 := cell_of_row w5 _ 2 _ _ _ B3
  have q3 := cell_of_row w5 _ 3 _ _ _ B3
  have q4 := cell_of_row w5 _ 4 _ _ _ B3
  have q5 := cell_of_row w5 _ 5 _ _ _ B3
  have fq0 := frozen_of_row w5 _ 0 _ _ B3
  have fq1 := frozen_of_row w5 _ 1 _ _ B3
  have fq2 := frozen_of_row w5 _ 2 _ _ B3
  have fq3 := frozen_of_row w5 _ 3 _ _ B3
  have fq4 := frozen_of_row w5 _ 4 _ _ B3
  have fq5 := frozen_of_row w5 _ 5 _ _ B3
  have a0 := cell_of_row w5 _ 0 _ _ _ B4
  have a1 := cell_of_row w5 _ 1 _ _ _ B4
  have a2 := cell_of_row w5 _ 2 _ _ _ B4
  have a3 := cell_of_row w5 _ 3 _ _ _ B4
  have a4 := cell_of_row w5 _ 4 _ _ _ B4
  have a5 := cell_of_row w5 _ 5 _ _ _ B4
  have fa0 := frozen_of_row w5 _ 0 _ _ B4
  have fa1 := frozen_of_row w5 _ 1 _ _ B4
  have fa2 := frozen_of_row w5 _ 2 _ _ B4
  have fa3 := frozen_of_row w5 _ 3 _ _ B4
  have fa4 := frozen_of_row w5 _ 4 _ _ B4
  have fa5 := frozen_of_row w5 _ 5 _ _ B4
  simp only [List.getElem?_toArray, List.getElem?_cons_zero, List.getElem?_cons_succ] at s0 s1 k0 k1 k2 k3 k4 r0 r1 q0 q1 q2 q3 q4 q5 a0 a1 a2 a3 a4 a5
  have l0 : w.heap.size < w5.heap.size := by omega
  have l1 : w.heap.size + 1 < w5.heap.size := by omega
  have l2 : w.heap.size + 1 + 1 < w5.heap.size := by omega
  have l3 : w.heap.size + 1 + 1 + 1 < w5.heap.size := by omega
  have l4 : w.heap.size + 1 + 1 + 1 + 1 < w5.heap.size := by omega
  go_region
  all_goals
    go_wp2_with fail
    refine bodyPost_ret (v := .tuple #[.agg #[.slice PX T.pairs.length px, .slice QX T.queue.length qx], .agg #[.int .i64 0, .bool (hasK s.pairs key), .string ByteArray.empty, .slice none 0 0, .slice none 0 0, .int .u64 0]]) (by simp [results, Tryz.results30, go_sem, r0, r1, q0, q1, q2, q3, q4, q5]) rfl ⟨PX, px, QX, qx, none, 0, none, 0, rfl, ?_, .inl ⟨hlow.1.mono (by omega), hlow.2.mono (by omega)⟩, Arr.nil, Nat.le_refl _, by omega, Arr.nil, Nat.le_refl _, by omega, ?_⟩
    · refine ShIn.more (B := w4.heap.size) ?_ (by simp; omega)
      repeat (first | with_reducible exact HIN.out | with_reducible refine ShIn.dr' ?_ | with_reducible refine ShIn.lowCell' ?_ hlow (by omega) _)
    · exact (by repeat (first | with_reducible exact Below.refl _ _ | with_reducible assumption | with_reducible refine Below.drew ?_ | with_reducible refine below_drewN ?_ _ | with_reducible refine Below.alloc ?_ (by first | omega | (simp; done) | (simp; omega)) _ | with_reducible refine Below.setCell ?_ (by first | omega | (simp; done) | (simp; omega)) _))
set_option maxHeartbeats 4000000 in
set_option maxRecDepth 100000 in
theorem refap_k4 (s : Shelf) (PA : Option Addr) (pc : Nat) (QA : Option Addr) (qc : Nat) (key val to' : ByteArray) (gA : Option Addr) (gn gc : Nat) (g : List Call0) (w : World) (h : ShIn w w.heap.size PA pc QA qc s) (hp : s.pairs.length ≤ 90000) (hq : s.queue.length ≤ 90000) (hc : CallIn w w.heap.size ⟨4, key, val, to', gA, gn, gc⟩ g) (hgood : goodI ⟨4, key, val, to', gA, gn, gc⟩ g = 0) :
    Calls Tryz.prog 30 #[.agg #[.slice PA s.pairs.length pc, .slice QA s.queue.length qc], .agg #[.int .i64 4, .string key, .string val, .string to', .slice gA gn gc]] w (GivesRA PA QA s ⟨s.pairs, s.queue ++ [val]⟩ (ans0 0) w) := by
  have H := hid h
  have HC := hid hc
  have HG := hid hgood
  have HP := hid hp
  have HQ := hid hq
  have hplen := h.plen
  have hpmax := h.pmax
  have hqlen := h.qlen
  have hqmax := h.qmax
  clear h hc hgood hp hq
  obtain ⟨T, hT⟩ : ∃ T : Shelf, T = ⟨s.pairs, s.queue ++ [val]⟩ := ⟨_, rfl⟩
  rw [← hT]
  have HT := hid hT
  clear hT
  go_enter Tryz.func30, Tryz.ntmps30
  go_wp2_with fail
  refine (refgood_any ⟨4, key, val, to', gA, gn, gc⟩ g _ ((HC.out.below (by repeat (first | exact Below.refl _ _ | assumption | refine Below.drew ?_ | refine below_drewN ?_ _ | refine Below.alloc ?_ (by first | omega | (simp; done) | (simp; omega)) _ | refine Below.setCell ?_ (by first | omega | (simp; done) | (simp; omega)) _))).more (by first | omega | (simp; done) | (simp; omega)))).mono ?_
  rintro e w1 ⟨rfl, hb1⟩
  rw [HG.out]
  have z1 := hb1.size
  simp only [World.size_alloc] at z1
  have bw1 : Below w.heap.size w w1 := Below.trans (by repeat (first | exact Below.refl _ _ | assumption | refine Below.drew ?_ | refine below_drewN ?_ _ | refine Below.alloc ?_ (by first | omega | (simp; done) | (simp; omega)) _ | refine Below.setCell ?_ (by first | omega | (simp; done) | (simp; omega)) _)) (hb1.mono (show w.heap.size ≤ _ from (by first | omega | (simp; done) | (simp; omega))))
  have B0 : w1.heap[w.heap.size]? = some (.cells #[.slice PA s.pairs.length pc, .slice QA s.queue.length qc] 25 (0, 0)) := (hb1.block _ (by first | (simp; done) | (simp; omega))).trans (by repeat (first | with_reducible exact heap_newR (by first | omega | (simp; done) | (simp; omega)) | exact heap_newR (by first | omega | (simp; done) | (simp; omega)) | (with_reducible refine (Below.heap_alloc _ _ _ ?_).trans ?_; exact (by first | omega | (simp; done) | (simp; omega)))))
  have B1 : w1.heap[w.heap.size + 1]? = some (.cells #[.int .i64 4, .string key, .string val, .string to', .slice gA gn gc] 46 (0, 0)) := (hb1.block _ (by first | (simp; done) | (simp; omega))).trans (by repeat (first | with_reducible exact heap_newR (by first | omega | (simp; done) | (simp; omega)) | exact heap_newR (by first | omega | (simp; done) | (simp; omega)) | (with_reducible refine (Below.heap_alloc _ _ _ ?_).trans ?_; exact (by first | omega | (simp; done) | (simp; omega)))))
  have B2 : w1.heap[w.heap.size + 1 + 1]? = some (.cells #[.slice none 0 0, .slice none 0 0] 25 (0, 0)) := (hb1.block _ (by first | (simp; done) | (simp; omega))).trans (by repeat (first | with_reducible exact heap_newR (by first | omega | (simp; done) | (simp; omega)) | exact heap_newR (by first | omega | (simp; done) | (simp; omega)) | (with_reducible refine (Below.heap_alloc _ _ _ ?_).trans ?_; exact (by first | omega | (simp; done) | (simp; omega)))))
  have B3 : w1.heap[w.heap.size + 1 + 1 + 1]? = some (.cells #[.int .i64 0, .bool false, .string ByteArray.empty, .slice none 0 0, .slice none 0 0, .int .u64 0] 50 (0, 0)) := (hb1.block _ (by first | (simp; done) | (simp; omega))).trans (by repeat (first | with_reducible exact heap_newR (by first | omega | (simp; done) | (simp; omega)) | exact heap_newR (by first | omega | (simp; done) | (simp; omega)) | (with_reducible refine (Below.heap_alloc _ _ _ ?_).trans ?_; exact (by first | omega | (simp; done) | (simp; omega)))))
  have B4 : w1.heap[w.heap.size + 1 + 1 + 1 + 1]? = some (.cells #[.int .i64 0, .bool false, .string ByteArray.empty, .slice none 0 0, .slice none 0 0, .int .u64 0] 50 (0, 0)) := (hb1.block _ (by first | (simp; done) | (simp; omega))).trans (by repeat (first | with_reducible exact heap_newR (by first | omega | (simp; done) | (simp; omega)) | exact heap_newR (by first | omega | (simp; done) | (simp; omega)) | (with_reducible refine (Below.heap_alloc _ _ _ ?_).trans ?_; exact (by first | omega | (simp; done) | (simp; omega)))))
  clear hb1
  have s0 := cell_of_row w1 _ 0 _ _ _ B0
  have s1 := cell_of_row w1 _ 1 _ _ _ B0
  have fs0 := frozen_of_row w1 _ 0 _ _ B0
  have fs1 := frozen_of_row w1 _ 1 _ _ B0
  have k0 := cell_of_row w1 _ 0 _ _ _ B1
  have k1 := cell_of_row w1 _ 1 _ _ _ B1
  have k2 := cell_of_row w1 _ 2 _ _ _ B1
  have k3 := cell_of_row w1 _ 3 _ _ _ B1
  have k4 := cell_of_row w1 _ 4 _ _ _ B1
  have r0 := cell_of_row w1 _ 0 _ _ _ B2
  have r1 := cell_of_row w1 _ 1 _ _ _ B2
  have fr0 := frozen_of_row w1 _ 0 _ _ B2
  have fr1 := frozen_of_row w1 _ 1 _ _ B2
  have q0 := cell_of_row w1 _ 0 _ _ _ B3
  have q1 := cell_of_row w1 _ 1 _ _ _ B3
  have q2 := cell_of_row w1 _ 2 _ _ _ B3
  have q3 := cell_of_row w1 _ 3 _ _ _ B3
  have q4 := cell_of_row w1 _ 4 _ _ _ B3
  have q5 := cell_of_row w1 _ 5 _ _ _ B3
  have fq0 := frozen_of_row w1 _ 0 _ _ B3
  have fq1 := frozen_of_row w1 _ 1 _ _ B3
  have fq2 := frozen_of_row w1 _ 2 _ _ B3
  have fq3 := frozen_of_row w1 _ 3 _ _ B3
  have fq4 := frozen_of_row w1 _ 4 _ _ B3
  have fq5 := frozen_of_row w1 _ 5 _ _ B3
  have a0 := cell_of_row w1 _ 0 _ _ _ B4
  have a1 := cell_of_row w1 _ 1 _ _ _ B4
  have a2 := cell_of_row w1 _ 2 _ _ _ B4
  have a3 := cell_of_row w1 _ 3 _ _ _ B4
  have a4 := cell_of_row w1 _ 4 _ _ _ B4
  have a5 := cell_of_row w1 _ 5 _ _ _ B4
  have fa0 := frozen_of_row w1 _ 0 _ _ B4
  have fa1 := frozen_of_row w1 _ 1 _ _ B4
  have fa2 := frozen_of_row w1 _ 2 _ _ B4
  have fa3 := frozen_of_row w1 _ 3 _ _ B4
  have fa4 := frozen_of_row w1 _ 4 _ _ B4
  have fa5 := frozen_of_row w1 _ 5 _ _ B4
  simp only [List.getElem?_toArray, List.getElem?_cons_zero, List.getElem?_cons_succ] at s0 s1 k0 k1 k2 k3 k4 r0 r1 q0 q1 q2 q3 q4 q5 a0 a1 a2 a3 a4 a5
  have l0 : w.heap.size < w1.heap.size := by omega
  have l1 : w.heap.size + 1 < w1.heap.size := by omega
  have l2 : w.heap.size + 1 + 1 < w1.heap.size := by omega
  have l3 : w.heap.size + 1 + 1 + 1 < w1.heap.size := by omega
  have l4 : w.heap.size + 1 + 1 + 1 + 1 < w1.heap.size := by omega
  go_wp2_with fail
  refine (refpush_any s PA pc QA qc val _ (in_below H.out bw1) (by have := HP.out; omega) (by have := HQ.out; omega)).mono ?_
  rintro e w4 hgi
  rw [← HT.out] at hgi
  obtain ⟨PX, px, QX, qx, rfl, hin, hlow, hb4⟩ := hgi
  have bw4 : Below w.heap.size w w4 := bw1.trans (hb4.mono bw1.size)
  have z4 := hb4.size
  clear s0 s1 fs0 fs1 k0 k1 k2 k3 k4 r0 r1 fr0 fr1 q0 q1 q2 q3 q4 q5 fq0 fq1 fq2 fq3 fq4 fq5 a0 a1 a2 a3 a4 a5 fa0 fa1 fa2 fa3 fa4 fa5 l0 l1 l2 l3 l4
  replace B0 : w4.heap[w.heap.size]? = some (.cells #[.slice PA s.pairs.length pc, .slice QA s.queue.length qc] 25 (0, 0)) := (hb4.block _ (by omega)).trans B0
  replace B1 : w4.heap[w.heap.size + 1]? = some (.cells #[.int .i64 4, .string key, .string val, .string to', .slice gA gn gc] 46 (0, 0)) := (hb4.block _ (by omega)).trans B1
  replace B2 : w4.heap[w.heap.size + 1 + 1]? = some (.cells #[.slice none 0 0, .slice none 0 0] 25 (0, 0)) := (hb4.block _ (by omega)).trans B2
  replace B3 : w4.heap[w.heap.size + 1 + 1 + 1]? = some (.cells #[.int .i64 0, .bool false, .string ByteArray.empty, .slice none 0 0, .slice none 0 0, .int .u64 0] 50 (0, 0)) := (hb4.block _ (by omega)).trans B3
  replace B4 : w4.heap[w.heap.size + 1 + 1 + 1 + 1]? = some (.cells #[.int .i64 0, .bool false, .string ByteArray.empty, .slice none 0 0, .slice none 0 0, .int .u64 0] 50 (0, 0)) := (hb4.block _ (by omega)).trans B4
  have s0 := cell_of_row w4 _ 0 _ _ _ B0
  have s1 := cell_of_row w4 _ 1 _ _ _ B0
  have fs0 := frozen_of_row w4 _ 0 _ _ B0
  have fs1 := frozen_of_row w4 _ 1 _ _ B0
  have k0 := cell_of_row w4 _ 0 _ _ _ B1
  have k1 := cell_of_row w4 _ 1 _ _ _ B1
  have k2 := cell_of_row w4 _ 2 _ _ _ B1
  have k3 := cell_of_row w4 _ 3 _ _ _ B1
  have k4 := cell_of_row w4 _ 4 _ _ _ B1
  have r0 := cell_of_row w4 _ 0 _ _ _ B2
  have r1 := cell_of_row w4 _ 1 _ _ _ B2
  have fr0 := frozen_of_row w4 _ 0 _ _ B2
  have fr1 := frozen_of_row w4 _ 1 _ _ B2
  have q0 := cell_of_row w4 _ 0 _ _ _ B3
  have q1 := cell_of_row w4 _ 1 _ _ _ B3
  have q2 := cell_of_row w4 _ 2 _ _ _ B3
  have q3 := cell_of_row w4 _ 3 _ _ _ B3
  have q4 := cell_of_row w4 _ 4 _ _ _ B3
  have q5 := cell_of_row w4 _ 5 _ _ _ B3
  have fq0 := frozen_of_row w4 _ 0 _ _ B3
  have fq1 := frozen_of_row w4 _ 1 _ _ B3
  have fq2 := frozen_of_row w4 _ 2 _ _ B3
  have fq3 := frozen_of_row w4 _ 3 _ _ B3
  have fq4 := frozen_of_row w4 _ 4 _ _ B3
  have fq5 := frozen_of_row w4 _ 5 _ _ B3
  have a0 := cell_of_row w4 _ 0 _ _ _ B4
  have a1 := cell_of_row w4 _ 1 _ _ _ B4
  have a2 := cell_of_row w4 _ 2 _ _ _ B4
  have a3 := cell_of_row w4 _ 3 _ _ _ B4
  have a4 := cell_of_row w4 _ 4 _ _ _ B4
  have a5 := cell_of_row w4 _ 5 _ _ _ B4
  have fa0 := frozen_of_row w4 _ 0 _ _ B4
  have fa1 := frozen_of_row w4 _ 1 _ _ B4
  have fa2 := frozen_of_row w4 _ 2 _ _ B4
  have fa3 := frozen_of_row w4 _ 3 _ _ B4
  have fa4 := frozen_of_row w4 _ 4 _ _ B4
  have fa5 := frozen_of_row w4 _ 5 _ _ B4
  simp only [List.getElem?_toArray, List.getElem?_cons_zero, List.getElem?_cons_succ] at s0 s1 k0 k1 k2 k3 k4 r0 r1 q0 q1 q2 q3 q4 q5 a0 a1 a2 a3 a4 a5
  have l0 : w.heap.size < w4.heap.size := by omega
  have l1 : w.heap.size + 1 < w4.heap.size := by omega
  have l2 : w.heap.size + 1 + 1 < w4.heap.size := by omega
  have l3 : w.heap.size + 1 + 1 + 1 < w4.heap.size := by omega
  have l4 : w.heap.size + 1 + 1 + 1 + 1 < w4.heap.size := by omega
  go_upto_region 35 with fail
  obtain ⟨w5, hw5⟩ : ∃ w5, w5 = (w4.setCell ⟨w.heap.size, 0, none⟩ (.slice PX T.pairs.length px)).setCell ⟨w.heap.size, 1, none⟩ (.slice QX T.queue.length qx) := ⟨_, rfl⟩
  rw [← hw5]
  have zw5 : w5.heap.size = w4.heap.size := by rw [hw5]; simp [World.setCell]
  have bw5 : Below w.heap.size w w5 := by rw [hw5]; exact ((bw4.setCell (by show w.heap.size ≤ w.heap.size; omega) _).setCell (by show w.heap.size ≤ w.heap.size; omega) _)
  replace B0 : w5.heap[w.heap.size]? = some (.cells #[.slice PX T.pairs.length px, .slice QX T.queue.length qx] 25 (0, 0)) := by
    rw [hw5]
    have e0 := B0
    have e1 := heap_setCell_same _ (w.heap.size) 0 _ _ (.slice PX T.pairs.length px) e0
    have e2 := heap_setCell_same _ (w.heap.size) 1 _ _ (.slice QX T.queue.length qx) e1
    exact e2
  replace B1 : w5.heap[w.heap.size + 1]? = some (.cells #[.int .i64 4, .string key, .string val, .string to', .slice gA gn gc] 46 (0, 0)) := by
    rw [hw5]
    refine (heap_setO (by omega)).trans ?_
    refine (heap_setO (by omega)).trans ?_
    exact B1
  replace B2 : w5.heap[w.heap.size + 1 + 1]? = some (.cells #[.slice none 0 0, .slice none 0 0] 25 (0, 0)) := by
    rw [hw5]
    refine (heap_setO (by omega)).trans ?_
    refine (heap_setO (by omega)).trans ?_
    exact B2
  replace B3 : w5.heap[w.heap.size + 1 + 1 + 1]? = some (.cells #[.int .i64 0, .bool false, .string ByteArray.empty, .slice none 0 0, .slice none 0 0, .int .u64 0] 50 (0, 0)) := by
    rw [hw5]
    refine (heap_setO (by omega)).trans ?_
    refine (heap_setO (by omega)).trans ?_
    exact B3
  replace B4 : w5.heap[w.heap.size + 1 + 1 + 1 + 1]? = some (.cells #[.int .i64 0, .bool false, .string ByteArray.empty, .slice none 0 0, .slice none 0 0, .int .u64 0] 50 (0, 0)) := by
    rw [hw5]
    refine (heap_setO (by omega)).trans ?_
    refine (heap_setO (by omega)).trans ?_
    exact B4
  have HIN := hid (show ShIn w5 w4.heap.size PX px QX qx T from by rw [hw5]; exact (ShIn.lowCell' (ShIn.lowCell' hin hlow (by omega) _) hlow (by omega) _))
  clear hw5
  clear s0 s1 fs0 fs1 k0 k1 k2 k3 k4 r0 r1 fr0 fr1 q0 q1 q2 q3 q4 q5 fq0 fq1 fq2 fq3 fq4 fq5 a0 a1 a2 a3 a4 a5 fa0 fa1 fa2 fa3 fa4 fa5 l0 l1 l2 l3 l4
  have s0 := cell_of_row w5 _ 0 _ _ _ B0
  have s1 := cell_of_row w5 _ 1 _ _ _ B0
  have fs0 := frozen_of_row w5 _ 0 _ _ B0
  have fs1 := frozen_of_row w5 _ 1 _ _ B0
  have k0 := cell_of_row w5 _ 0 _ _ _ B1
  have k1 := cell_of_row w5 _ 1 _ _ _ B1
  have k2 := cell_of_row w5 _ 2 _ _ _ B1
  have k3 := cell_of_row w5 _ 3 _ _ _ B1
  have k4 := cell_of_row w5 _ 4 _ _ _ B1
  have r0 := cell_of_row w5 _ 0 _ _ _ B2
  have r1 := cell_of_row w5 _ 1 _ _ _ B2
  have fr0 := frozen_of_row w5 _ 0 _ _ B2
  have fr1 := frozen_of_row w5 _ 1 _ _ B2
  have q0 := cell_of_row w5 _ 0 _ _ _ B3
  have q1 := cell_of_row w5 _ 1 _ _ _ B3
  have q2 := cell_of_row w5 _ 2 _ _ _ B3
  have q3 := cell_of_row w5 _ 3 _ _ _ B3
  have q4 := cell_of_row w5 _ 4 _ _ _ B3
  have q5 := cell_of_row w5 _ 5 _ _ _ B3
  have fq0 := frozen_of_row w5 _ 0 _ _ B3
  have fq1 := frozen_of_row w5 _ 1 _ _ B3
  have fq2 := frozen_of_row w5 _ 2 _ _ B3
  have fq3 := frozen_of_row w5 _ 3 _ _ B3
  have fq4 := frozen_of_row w5 _ 4 _ _ B3
  have fq5 := frozen_of_row w5 _ 5 _ _ B3
  have a0 := cell_of_row w5 _ 0 _ _ _ B4
  have a1 := cell_of_row w5 _ 1 _ _ _ B4
  have a2 := cell_of_row w5 _ 2 _ _ _ B4
  have a3 := cell_of_row w5 _ 3 _ _ _ B4
  have a4 := cell_of_row w5 _ 4 _ _ _ B4
  have a5 := cell_of_row w5 _ 5 _ _ _ B4
  have fa0 := frozen_of_row w5 _ 0 _ _ B4
  have fa1 := frozen_of_row w5 _ 1 _ _ B4
  have fa2 := frozen_of_row w5 _ 2 _ _ B4
  have fa3 := frozen_of_row w5 _ 3 _ _ B4
  have fa4 := frozen_of_row w5 _ 4 _ _ B4
  have fa5 := frozen_of_row w5 _ 5 _ _ B4
  simp only [List.getElem?_toArray, List.getElem?_cons_zero, List.getElem?_cons_succ] at s0 s1 k0 k1 k2 k3 k4 r0 r1 q0 q1 q2 q3 q4 q5 a0 a1 a2 a3 a4 a5
  have l0 : w.heap.size < w5.heap.size := by omega
  have l1 : w.heap.size + 1 < w5.heap.size := by omega
  have l2 : w.heap.size + 1 + 1 < w5.heap.size := by omega
  have l3 : w.heap.size + 1 + 1 + 1 < w5.heap.size := by omega
  have l4 : w.heap.size + 1 + 1 + 1 + 1 < w5.heap.size := by omega
  go_region
  all_goals
    go_wp2_with fail
    refine bodyPost_ret (v := .tuple #[.agg #[.slice PX T.pairs.length px, .slice QX T.queue.length qx], .agg #[.int .i64 0, .bool false, .string ByteArray.empty, .slice none 0 0, .slice none 0 0, .int .u64 0]]) (by simp [results, Tryz.results30, go_sem, r0, r1, q0, q1, q2, q3, q4, q5]) rfl ⟨PX, px, QX, qx, none, 0, none, 0, rfl, ?_, .inl ⟨hlow.1.mono (by omega), hlow.2.mono (by omega)⟩, Arr.nil, Nat.le_refl _, by omega, Arr.nil, Nat.le_refl _, by omega, ?_⟩
    · refine ShIn.more (B := w4.heap.size) ?_ (by simp; omega)
      repeat (first | with_reducible exact HIN.out | with_reducible refine ShIn.dr' ?_ | with_reducible refine ShIn.lowCell' ?_ hlow (by omega) _)
    · exact (by repeat (first | with_reducible exact Below.refl _ _ | with_reducible assumption | with_reducible refine Below.drew ?_ | with_reducible refine below_drewN ?_ _ | with_reducible refine Below.alloc ?_ (by first | omega | (simp; done) | (simp; omega)) _ | with_reducible refine Below.setCell ?_ (by first | omega | (simp; done) | (simp; omega)) _))
set_option maxHeartbeats 4000000 in
set_option maxRecDepth 100000 in
theorem refap_k50 (s : Shelf) (PA : Option Addr) (pc : Nat) (QA : Option Addr) (qc : Nat) (key val to' : ByteArray) (gA : Option Addr) (gn gc : Nat) (g : List Call0) (w : World) (h : ShIn w w.heap.size PA pc QA qc s) (hp : s.pairs.length ≤ 90000) (hq : s.queue.length ≤ 90000) (hq0 : ¬ 0 < s.queue.length) (hc : CallIn w w.heap.size ⟨5, key, val, to', gA, gn, gc⟩ g) (hgood : goodI ⟨5, key, val, to', gA, gn, gc⟩ g = 0) :
    Calls Tryz.prog 30 #[.agg #[.slice PA s.pairs.length pc, .slice QA s.queue.length qc], .agg #[.int .i64 5, .string key, .string val, .string to', .slice gA gn gc]] w (GivesRA PA QA s ⟨s.pairs, s.queue.tail⟩ (ans0 0) w) := by
  have H := hid h
  have HC := hid hc
  have HG := hid hgood
  have HP := hid hp
  have HQ := hid hq
  have hplen := h.plen
  have hpmax := h.pmax
  have hqlen := h.qlen
  have hqmax := h.qmax
  clear h hc hgood hp hq
  obtain ⟨T, hT⟩ : ∃ T : Shelf, T = ⟨s.pairs, s.queue.tail⟩ := ⟨_, rfl⟩
  rw [← hT]
  have HT := hid hT
  clear hT
  go_enter Tryz.func30, Tryz.ntmps30
  go_wp2_with fail
  refine (refgood_any ⟨5, key, val, to', gA, gn, gc⟩ g _ ((HC.out.below (by repeat (first | exact Below.refl _ _ | assumption | refine Below.drew ?_ | refine below_drewN ?_ _ | refine Below.alloc ?_ (by first | omega | (simp; done) | (simp; omega)) _ | refine Below.setCell ?_ (by first | omega | (simp; done) | (simp; omega)) _))).more (by first | omega | (simp; done) | (simp; omega)))).mono ?_
  rintro e w1 ⟨rfl, hb1⟩
  rw [HG.out]
  have z1 := hb1.size
  simp only [World.size_alloc] at z1
  have bw1 : Below w.heap.size w w1 := Below.trans (by repeat (first | exact Below.refl _ _ | assumption | refine Below.drew ?_ | refine below_drewN ?_ _ | refine Below.alloc ?_ (by first | omega | (simp; done) | (simp; omega)) _ | refine Below.setCell ?_ (by first | omega | (simp; done) | (simp; omega)) _)) (hb1.mono (show w.heap.size ≤ _ from (by first | omega | (simp; done) | (simp; omega))))
  have B0 : w1.heap[w.heap.size]? = some (.cells #[.slice PA s.pairs.length pc, .slice QA s.queue.length qc] 25 (0, 0)) := (hb1.block _ (by first | (simp; done) | (simp; omega))).trans (by repeat (first | with_reducible exact heap_newR (by first | omega | (simp; done) | (simp; omega)) | exact heap_newR (by first | omega | (simp; done) | (simp; omega)) | (with_reducible refine (Below.heap_alloc _ _ _ ?_).trans ?_; exact (by first | omega | (simp; done) | (simp; omega)))))
  have B1 : w1.heap[w.heap.size + 1]? = some (.cells #[.int .i64 5, .string key, .string val, .string to', .slice gA gn gc] 46 (0, 0)) := (hb1.block _ (by first | (simp; done) | (simp; omega))).trans (by repeat (first | with_reducible exact heap_newR (by first | omega | (simp; done) | (simp; omega)) | exact heap_newR (by first | omega | (simp; done) | (simp; omega)) | (with_reducible refine (Below.heap_alloc _ _ _ ?_).trans ?_; exact (by first | omega | (simp; done) | (simp; omega)))))
  have B2 : w1.heap[w.heap.size + 1 + 1]? = some (.cells #[.slice none 0 0, .slice none 0 0] 25 (0, 0)) := (hb1.block _ (by first | (simp; done) | (simp; omega))).trans (by repeat (first | with_reducible exact heap_newR (by first | omega | (simp; done) | (simp; omega)) | exact heap_newR (by first | omega | (simp; done) | (simp; omega)) | (with_reducible refine (Below.heap_alloc _ _ _ ?_).trans ?_; exact (by first | omega | (simp; done) | (simp; omega)))))
  have B3 : w1.heap[w.heap.size + 1 + 1 + 1]? = some (.cells #[.int .i64 0, .bool false, .string ByteArray.empty, .slice none 0 0, .slice none 0 0, .int .u64 0] 50 (0, 0)) := (hb1.block _ (by first | (simp; done) | (simp; omega))).trans (by repeat (first | with_reducible exact heap_newR (by first | omega | (simp; done) | (simp; omega)) | exact heap_newR (by first | omega | (simp; done) | (simp; omega)) | (with_reducible refine (Below.heap_alloc _ _ _ ?_).trans ?_; exact (by first | omega | (simp; done) | (simp; omega)))))
  have B4 : w1.heap[w.heap.size + 1 + 1 + 1 + 1]? = some (.cells #[.int .i64 0, .bool false, .string ByteArray.empty, .slice none 0 0, .slice none 0 0, .int .u64 0] 50 (0, 0)) := (hb1.block _ (by first | (simp; done) | (simp; omega))).trans (by repeat (first | with_reducible exact heap_newR (by first | omega | (simp; done) | (simp; omega)) | exact heap_newR (by first | omega | (simp; done) | (simp; omega)) | (with_reducible refine (Below.heap_alloc _ _ _ ?_).trans ?_; exact (by first | omega | (simp; done) | (simp; omega)))))
  clear hb1
  have s0 := cell_of_row w1 _ 0 _ _ _ B0
  have s1 := cell_of_row w1 _ 1 _ _ _ B0
  have fs0 := frozen_of_row w1 _ 0 _ _ B0
  have fs1 := frozen_of_row w1 _ 1 _ _ B0
  have k0 := cell_of_row w1 _ 0 _ _ _ B1
  have k1 := cell_of_row w1 _ 1 _ _ _ B1
  have k2 := cell_of_row w1 _ 2 _ _ _ B1
  have k3 := cell_of_row w1 _ 3 _ _ _ B1
  have k4 := cell_of_row w1 _ 4 _ _ _ B1
  have r0 := cell_of_row w1 _ 0 _ _ _ B2
  have r1 := cell_of_row w1 _ 1 _ _ _ B2
  have fr0 := frozen_of_row w1 _ 0 _ _ B2
  have fr1 := frozen_of_row w1 _ 1 _ _ B2
  have q0 := cell_of_row w1 _ 0 _ _ _ B3
  have q1 := cell_of_row w1 _ 1 _ _ _ B3
  have q2 := cell_of_row w1 _ 2 _ _ _ B3
  have q3 := cell_of_row w1 _ 3 _ _ _ B3
  have q4 := cell_of_row w1 _ 4 _ _ _ B3
  have q5 := cell_of_row w1 _ 5 _ _ _ B3
  have fq0 := frozen_of_row w1 _ 0 _ _ B3
  have fq1 := frozen_of_row w1 _ 1 _ _ B3
  have fq2 := frozen_of_row w1 _ 2 _ _ B3
  have fq3 := frozen_of_row w1 _ 3 _ _ B3
  have fq4 := frozen_of_row w1 _ 4 _ _ B3
  have fq5 := frozen_of_row w1 _ 5 _ _ B3
  have a0 := cell_of_row w1 _ 0 _ _ _ B4
  have a1 := cell_of_row w1 _ 1 _ _ _ B4
  have a2 := cell_of_row w1 _ 2 _ _ _ B4
  have a3 := cell_of_row w1 _ 3 _ _ _ B4
  have a4 := cell_of_row w1 _ 4 _ _ _ B4
  have a5 := cell_of_row w1 _ 5 _ _ _ B4
  have fa0 := frozen_of_row w1 _ 0 _ _ B4
  have fa1 := frozen_of_row w1 _ 1 _ _ B4
  have fa2 := frozen_of_row w1 _ 2 _ _ B4
  have fa3 := frozen_of_row w1 _ 3 _ _ B4
  have fa4 := frozen_of_row w1 _ 4 _ _ B4
  have fa5 := frozen_of_row w1 _ 5 _ _ B4
  simp only [List.getElem?_toArray, List.getElem?_cons_zero, List.getElem?_cons_succ] at s0 s1 k0 k1 k2 k3 k4 r0 r1 q0 q1 q2 q3 q4 q5 a0 a1 a2 a3 a4 a5
  have l0 : w.heap.size < w1.heap.size := by omega
  have l1 : w.heap.size + 1 < w1.heap.size := by omega
  have l2 : w.heap.size + 1 + 1 < w1.heap.size := by omega
  have l3 : w.heap.size + 1 + 1 + 1 < w1.heap.size := by omega
  have l4 : w.heap.size + 1 + 1 + 1 + 1 < w1.heap.size := by omega
  have hq1 : ¬ (0 : Int) < (s.queue.length : Int) := by omega
  go_wp2_with fail
  refine (refpop_any s PA pc QA qc _ (in_below H.out bw1) (by have := HP.out; omega) (by have := HQ.out; omega)).mono ?_
  rintro e w4 hgi
  rw [← HT.out] at hgi
  obtain ⟨PX, px, QX, qx, rfl, hin, hlow, hb4⟩ := hgi
  have bw4 : Below w.heap.size w w4 := bw1.trans (hb4.mono bw1.size)
  have z4 := hb4.size
  clear s0 s1 fs0 fs1 k0 k1 k2 k3 k4 r0 r1 fr0 fr1 q0 q1 q2 q3 q4 q5 fq0 fq1 fq2 fq3 fq4 fq5 a0 a1 a2 a3 a4 a5 fa0 fa1 fa2 fa3 fa4 fa5 l0 l1 l2 l3 l4
  replace B0 : w4.heap[w.heap.size]? = some (.cells #[.slice PA s.pairs.length pc, .slice QA s.queue.length qc] 25 (0, 0)) := (hb4.block _ (by omega)).trans B0
  replace B1 : w4.heap[w.heap.size + 1]? = some (.cells #[.int .i64 5, .string key, .string val, .string to', .slice gA gn gc] 46 (0, 0)) := (hb4.block _ (by omega)).trans B1
  replace B2 : w4.heap[w.heap.size + 1 + 1]? = some (.cells #[.slice none 0 0, .slice none 0 0] 25 (0, 0)) := (hb4.block _ (by omega)).trans B2
  replace B3 : w4.heap[w.heap.size + 1 + 1 + 1]? = some (.cells #[.int .i64 0, .bool false, .string ByteArray.empty, .slice none 0 0, .slice none 0 0, .int .u64 0] 50 (0, 0)) := (hb4.block _ (by omega)).trans B3
  replace B4 : w4.heap[w.heap.size + 1 + 1 + 1 + 1]? = some (.cells #[.int .i64 0, .bool false, .string ByteArray.empty, .slice none 0 0, .slice none 0 0, .int .u64 0] 50 (0, 0)) := (hb4.block _ (by omega)).trans B4
  have s0 := cell_of_row w4 _ 0 _ _ _ B0
  have s1 := cell_of_row w4 _ 1 _ _ _ B0
  have fs0 := frozen_of_row w4 _ 0 _ _ B0
  have fs1 := frozen_of_row w4 _ 1 _ _ B0
  have k0 := cell_of_row w4 _ 0 _ _ _ B1
  have k1 := cell_of_row w4 _ 1 _ _ _ B1
  have k2 := cell_of_row w4 _ 2 _ _ _ B1
  have k3 := cell_of_row w4 _ 3 _ _ _ B1
  have k4 := cell_of_row w4 _ 4 _ _ _ B1
  have r0 := cell_of_row w4 _ 0 _ _ _ B2
  have r1 := cell_of_row w4 _ 1 _ _ _ B2
  have fr0 := frozen_of_row w4 _ 0 _ _ B2
  have fr1 := frozen_of_row w4 _ 1 _ _ B2
  have q0 := cell_of_row w4 _ 0 _ _ _ B3
  have q1 := cell_of_row w4 _ 1 _ _ _ B3
  have q2 := cell_of_row w4 _ 2 _ _ _ B3
  have q3 := cell_of_row w4 _ 3 _ _ _ B3
  have q4 := cell_of_row w4 _ 4 _ _ _ B3
  have q5 := cell_of_row w4 _ 5 _ _ _ B3
  have fq0 := frozen_of_row w4 _ 0 _ _ B3
  have fq1 := frozen_of_row w4 _ 1 _ _ B3
  have fq2 := frozen_of_row w4 _ 2 _ _ B3
  have fq3 := frozen_of_row w4 _ 3 _ _ B3
  have fq4 := frozen_of_row w4 _ 4 _ _ B3
  have fq5 := frozen_of_row w4 _ 5 _ _ B3
  have a0 := cell_of_row w4 _ 0 _ _ _ B4
  have a1 := cell_of_row w4 _ 1 _ _ _ B4
  have a2 := cell_of_row w4 _ 2 _ _ _ B4
  have a3 := cell_of_row w4 _ 3 _ _ _ B4
  have a4 := cell_of_row w4 _ 4 _ _ _ B4
  have a5 := cell_of_row w4 _ 5 _ _ _ B4
  have fa0 := frozen_of_row w4 _ 0 _ _ B4
  have fa1 := frozen_of_row w4 _ 1 _ _ B4
  have fa2 := frozen_of_row w4 _ 2 _ _ B4
  have fa3 := frozen_of_row w4 _ 3 _ _ B4
  have fa4 := frozen_of_row w4 _ 4 _ _ B4
  have fa5 := frozen_of_row w4 _ 5 _ _ B4
  simp only [List.getElem?_toArray, List.getElem?_cons_zero, List.getElem?_cons_succ] at s0 s1 k0 k1 k2 k3 k4 r0 r1 q0 q1 q2 q3 q4 q5 a0 a1 a2 a3 a4 a5
  have l0 : w.heap.size < w4.heap.size := by omega
  have l1 : w.heap.size + 1 < w4.heap.size := by omega
  have l2 : w.heap.size + 1 + 1 < w4.heap.size := by omega
  have l3 : w.heap.size + 1 + 1 + 1 < w4.heap.size := by omega
  have l4 : w.heap.size + 1 + 1 + 1 + 1 < w4.heap.size := by omega
  go_upto_region 35 with fail
  obtain ⟨w5, hw5⟩ : ∃ w5, w5 = (w4.setCell ⟨w.heap.size, 0, none⟩ (.slice PX T.pairs.length px)).setCell ⟨w.heap.size, 1, none⟩ (.slice QX T.queue.length qx) := ⟨_, rfl⟩
  rw [← hw5]
  have zw5 : w5.heap.size = w4.heap.size := by rw [hw5]; simp [World.setCell]
  have bw5 : Below w.heap.size w w5 := by rw [hw5]; exact ((bw4.setCell (by show w.heap.size ≤ w.heap.size; omega) _).setCell (by show w.heap.size ≤ w.heap.size; omega) _)
  replace B0 : w5.heap[w.heap.size]? = some (.cells #[.slice PX T.pairs.length px, .slice QX T.queue.length qx] 25 (0, 0)) := by
    rw [hw5]
    have e0 := B0
    have e1 := heap_setCell_same _ (w.heap.size) 0 _ _ (.slice PX T.pairs.length px) e0
    have e2 := heap_setCell_same _ (w.heap.size) 1 _ _ (.slice QX T.queue.length qx) e1
    exact e2
  replace B1 : w5.heap[w.heap.size + 1]? = some (.cells #[.int .i64 5, .string key, .string val, .string to', .slice gA gn gc] 46 (0, 0)) := by
    rw [hw5]
    refine (heap_setO (by omega)).trans ?_
    refine (heap_setO (by omega)).trans ?_
    exact B1
  replace B2 : w5.heap[w.heap.size + 1 + 1]? = some (.cells #[.slice none 0 0, .slice none 0 0] 25 (0, 0)) := by
    rw [hw5]
    refine (heap_setO (by omega)).trans ?_
    refine (heap_setO (by omega)).trans ?_
    exact B2
  replace B3 : w5.heap[w.heap.size + 1 + 1 + 1]? = some (.cells #[.int .i64 0, .bool false, .string ByteArray.empty, .slice none 0 0, .slice none 0 0, .int .u64 0] 50 (0, 0)) := by
    rw [hw5]
    refine (heap_setO (by omega)).trans ?_
    refine (heap_setO (by omega)).trans ?_
    exact B3
  replace B4 : w5.heap[w.heap.size + 1 + 1 + 1 + 1]? = some (.cells #[.int .i64 0, .bool false, .string ByteArray.empty, .slice none 0 0, .slice none 0 0, .int .u64 0] 50 (0, 0)) := by
    rw [hw5]
    refine (heap_setO (by omega)).trans ?_
    refine (heap_setO (by omega)).trans ?_
    exact B4
  have HIN := hid (show ShIn w5 w4.heap.size PX px QX qx T from by rw [hw5]; exact (ShIn.lowCell' (ShIn.lowCell' hin hlow (by omega) _) hlow (by omega) _))
  clear hw5
  clear s0 s1 fs0 fs1 k0 k1 k2 k3 k4 r0 r1 fr0 fr1 q0 q1 q2 q3 q4 q5 fq0 fq1 fq2 fq3 fq4 fq5 a0 a1 a2 a3 a4 a5 fa0 fa1 fa2 fa3 fa4 fa5 l0 l1 l2 l3 l4
  have s0 := cell_of_row w5 _ 0 _ _ _ B0
  have s1 := cell_of_row w5 _ 1 _ _ _ B0
  have fs0 := frozen_of_row w5 _ 0 _ _ B0
  have fs1 := frozen_of_row w5 _ 1 _ _ B0
  have k0 := cell_of_row w5 _ 0 _ _ _ B1
  have k1 := cell_of_row w5 _ 1 _ _ _ B1
  have k2 := cell_of_row w5 _ 2 _ _ _ B1
  have k3 := cell_of_row w5 _ 3 _ _ _ B1
  have k4 := cell_of_row w5 _ 4 _ _ _ B1
  have r0 := cell_of_row w5 _ 0 _ _ _ B2
  have r1 := cell_of_row w5 _ 1 _ _ _ B2
  have fr0 := frozen_of_row w5 _ 0 _ _ B2
  have fr1 := frozen_of_row w5 _ 1 _ _ B2
  have q0 := cell_of_row w5 _ 0 _ _ _ B3
  have q1 := cell_of_row w5 _ 1 _ _ _ B3
  have q2 := cell_of_row w5 _ 2 _ _ _ B3
  have q3 := cell_of_row w5 _ 3 _ _ _ B3
  have q4 := cell_of_row w5 _ 4 _ _ _ B3
  have q5 := cell_of_row w5 _ 5 _ _ _ B3
  have fq0 := frozen_of_row w5 _ 0 _ _ B3
  have fq1 := frozen_of_row w5 _ 1 _ _ B3
  have fq2 := frozen_of_row w5 _ 2 _ _ B3
  have fq3 := frozen_of_row w5 _ 3 _ _ B3
  have fq4 := frozen_of_row w5 _ 4 _ _ B3
  have fq5 := frozen_of_row w5 _ 5 _ _ B3
  have a0 := cell_of_row w5 _ 0 _ _ _ B4
  have a1 := cell_of_row w5 _ 1 _ _ _ B4
  have a2 := cell_of_row w5 _ 2 _ _ _ B4
  have a3 := cell_of_row w5 _ 3 _ _ _ B4
  have a4 := cell_of_row w5 _ 4 _ _ _ B4
  have a5 := cell_of_row w5 _ 5 _ _ _ B4
  have fa0 := frozen_of_row w5 _ 0 _ _ B4
  have fa1 := frozen_of_row w5 _ 1 _ _ B4
  have fa2 := frozen_of_row w5 _ 2 _ _ B4
  have fa3 := frozen_of_row w5 _ 3 _ _ B4
  have fa4 := frozen_of_row w5 _ 4 _ _ B4
  have fa5 := frozen_of_row w5 _ 5 _ _ B4
  simp only [List.getElem?_toArray, List.getElem?_cons_zero, List.getElem?_cons_succ] at s0 s1 k0 k1 k2 k3 k4 r0 r1 q0 q1 q2 q3 q4 q5 a0 a1 a2 a3 a4 a5
  have l0 : w.heap.size < w5.heap.size := by omega
  have l1 : w.heap.size + 1 < w5.heap.size := by omega
  have l2 : w.heap.size + 1 + 1 < w5.heap.size := by omega
  have l3 : w.heap.size + 1 + 1 + 1 < w5.heap.size := by omega
  have l4 : w.heap.size + 1 + 1 + 1 + 1 < w5.heap.size := by omega
  go_region
  all_goals
    go_wp2_with fail
    refine bodyPost_ret (v := .tuple #[.agg #[.slice PX T.pairs.length px, .slice QX T.queue.length qx], .agg #[.int .i64 0, .bool false, .string ByteArray.empty, .slice none 0 0, .slice none 0 0, .int .u64 0]]) (by simp [results, Tryz.results30, go_sem, r0, r1, q0, q1, q2, q3, q4, q5]) rfl ⟨PX, px, QX, qx, none, 0, none, 0, rfl, ?_, .inl ⟨hlow.1.mono (by omega), hlow.2.mono (by omega)⟩, Arr.nil, Nat.le_refl _, by omega, Arr.nil, Nat.le_refl _, by omega, ?_⟩
    · refine ShIn.more (B := w4.heap.size) ?_ (by simp; omega)
      repeat (first | with_reducible exact HIN.out | with_reducible refine ShIn.dr' ?_ | with_reducible refine ShIn.lowCell' ?_ hlow (by omega) _)
    · exact (by repeat (first | with_reducible exact Below.refl _ _ | with_reducible assumption | with_reducible refine Below.drew ?_ | with_reducible refine below_drewN ?_ _ | with_reducible refine Below.alloc ?_ (by first | omega | (simp; done) | (simp; omega)) _ | with_reducible refine Below.setCell ?_ (by first | omega | (simp; done) | (simp; omega)) _))
set_option maxHeartbeats 4000000 in
set_option maxRecDepth 100000 in
theorem refap_k51 (s : Shelf) (PA : Option Addr) (pc : Nat) (QA : Option Addr) (qc : Nat) (key val to' : ByteArray) (gA : Option Addr) (gn gc : Nat) (g : List Call0) (w : World) (h : ShIn w w.heap.size PA pc QA qc s) (hp : s.pairs.length ≤ 90000) (hq : s.queue.length ≤ 90000) (hq0 : 0 < s.queue.length) (hc : CallIn w w.heap.size ⟨5, key, val, to', gA, gn, gc⟩ g) (hgood : goodI ⟨5, key, val, to', gA, gn, gc⟩ g = 0) :
    Calls Tryz.prog 30 #[.agg #[.slice PA s.pairs.length pc, .slice QA s.queue.length qc], .agg #[.int .i64 5, .string key, .string val, .string to', .slice gA gn gc]] w (GivesRA PA QA s ⟨s.pairs, s.queue.tail⟩ { ans0 0 with value := s.queue[0], found := true } w) := by
  have H := hid h
  have HC := hid hc
  have HG := hid hgood
  have HP := hid hp
  have HQ := hid hq
  have hplen := h.plen
  have hpmax := h.pmax
  have hqlen := h.qlen
  have hqmax := h.qmax
  clear h hc hgood hp hq
  obtain ⟨T, hT⟩ : ∃ T : Shelf, T = ⟨s.pairs, s.queue.tail⟩ := ⟨_, rfl⟩
  rw [← hT]
  have HT := hid hT
  clear hT
  go_enter Tryz.func30, Tryz.ntmps30
  go_wp2_with fail
  refine (refgood_any ⟨5, key, val, to', gA, gn, gc⟩ g _ ((HC.out.below (by repeat (first | exact Below.refl _ _ | assumption | refine Below.drew ?_ | refine below_drewN ?_ _ | refine Below.alloc ?_ (by first | omega | (simp; done) | (simp; omega)) _ | refine Below.setCell ?_ (by first | omega | (simp; done) | (simp; omega)) _))).more (by first | omega | (simp; done) | (simp; omega)))).mono ?_
  rintro e w1 ⟨rfl, hb1⟩
  rw [HG.out]
  have z1 := hb1.size
  simp only [World.size_alloc] at z1
  have bw1 : Below w.heap.size w w1 := Below.trans (by repeat (first | exact Below.refl _ _ | assumption | refine Below.drew ?_ | refine below_drewN ?_ _ | refine Below.alloc ?_ (by first | omega | (simp; done) | (simp; omega)) _ | refine Below.setCell ?_ (by first | omega | (simp; done) | (simp; omega)) _)) (hb1.mono (show w.heap.size ≤ _ from (by first | omega | (simp; done) | (simp; omega))))
  have B0 : w1.heap[w.heap.size]? = some (.cells #[.slice PA s.pairs.length pc, .slice QA s.queue.length qc] 25 (0, 0)) := (hb1.block _ (by first | (simp; done) | (simp; omega))).trans (by repeat (first | with_reducible exact heap_newR (by first | omega | (simp; done) | (simp; omega)) | exact heap_newR (by first | omega | (simp; done) | (simp; omega)) | (with_reducible refine (Below.heap_alloc _ _ _ ?_).trans ?_; exact (by first | omega | (simp; done) | (simp; omega)))))
  have B1 : w1.heap[w.heap.size + 1]? = some (.cells #[.int .i64 5, .string key, .string val, .string to', .slice gA gn gc] 46 (0, 0)) := (hb1.block _ (by first | (simp; done) | (simp; omega))).trans (by repeat (first | with_reducible exact heap_newR (by first | omega | (simp; done) | (simp; omega)) | exact heap_newR (by first | omega | (simp; done) | (simp; omega)) | (with_reducible refine (Below.heap_alloc _ _ _ ?_).trans ?_; exact (by first | omega | (simp; done) | (simp; omega)))))
  have B2 : w1.heap[w.heap.size + 1 + 1]? = some (.cells #[.slice none 0 0, .slice none 0 0] 25 (0, 0)) := (hb1.block _ (by first | (simp; done) | (simp; omega))).trans (by repeat (first | with_reducible exact heap_newR (by first | omega | (simp; done) | (simp; omega)) | exact heap_newR (by first | omega | (simp; done) | (simp; omega)) | (with_reducible refine (Below.heap_alloc _ _ _ ?_).trans ?_; exact (by first | omega | (simp; done) | (simp; omega)))))
  have B3 : w1.heap[w.heap.size + 1 + 1 + 1]? = some (.cells #[.int .i64 0, .bool false, .string ByteArray.empty, .slice none 0 0, .slice none 0 0, .int .u64 0] 50 (0, 0)) := (hb1.block _ (by first | (simp; done) | (simp; omega))).trans (by repeat (first | with_reducible exact heap_newR (by first | omega | (simp; done) | (simp; omega)) | exact heap_newR (by first | omega | (simp; done) | (simp; omega)) | (with_reducible refine (Below.heap_alloc _ _ _ ?_).trans ?_; exact (by first | omega | (simp; done) | (simp; omega)))))
  have B4 : w1.heap[w.heap.size + 1 + 1 + 1 + 1]? = some (.cells #[.int .i64 0, .bool false, .string ByteArray.empty, .slice none 0 0, .slice none 0 0, .int .u64 0] 50 (0, 0)) := (hb1.block _ (by first | (simp; done) | (simp; omega))).trans (by repeat (first | with_reducible exact heap_newR (by first | omega | (simp; done) | (simp; omega)) | exact heap_newR (by first | omega | (simp; done) | (simp; omega)) | (with_reducible refine (Below.heap_alloc _ _ _ ?_).trans ?_; exact (by first | omega | (simp; done) | (simp; omega)))))
  clear hb1
  have s0 := cell_of_row w1 _ 0 _ _ _ B0
  have s1 := cell_of_row w1 _ 1 _ _ _ B0
  have fs0 := frozen_of_row w1 _ 0 _ _ B0
  have fs1 := frozen_of_row w1 _ 1 _ _ B0
  have k0 := cell_of_row w1 _ 0 _ _ _ B1
  have k1 := cell_of_row w1 _ 1 _ _ _ B1
  have k2 := cell_of_row w1 _ 2 _ _ _ B1
  have k3 := cell_of_row w1 _ 3 _ _ _ B1
  have k4 := cell_of_row w1 _ 4 _ _ _ B1
  have r0 := cell_of_row w1 _ 0 _ _ _ B2
  have r1 := cell_of_row w1 _ 1 _ _ _ B2
  have fr0 := frozen_of_row w1 _ 0 _ _ B2
  have fr1 := frozen_of_row w1 _ 1 _ _ B2
  have q0 := cell_of_row w1 _ 0 _ _ _ B3
  have q1 := cell_of_row w1 _ 1 _ _ _ B3
  have q2 := cell_of_row w1 _ 2 _ _ _ B3
  have q3 := cell_of_row w1 _ 3 _ _ _ B3
  have q4 := cell_of_row w1 _ 4 _ _ _ B3
  have q5 := cell_of_row w1 _ 5 _ _ _ B3
  have fq0 := frozen_of_row w1 _ 0 _ _ B3
  have fq1 := frozen_of_row w1 _ 1 _ _ B3
  have fq2 := frozen_of_row w1 _ 2 _ _ B3
  have fq3 := frozen_of_row w1 _ 3 _ _ B3
  have fq4 := frozen_of_row w1 _ 4 _ _ B3
  have fq5 := frozen_of_row w1 _ 5 _ _ B3
  have a0 := cell_of_row w1 _ 0 _ _ _ B4
  have a1 := cell_of_row w1 _ 1 _ _ _ B4
  have a2 := cell_of_row w1 _ 2 _ _ _ B4
  have a3 := cell_of_row w1 _ 3 _ _ _ B4
  have a4 := cell_of_row w1 _ 4 _ _ _ B4
  have a5 := cell_of_row w1 _ 5 _ _ _ B4
  have fa0 := frozen_of_row w1 _ 0 _ _ B4
  have fa1 := frozen_of_row w1 _ 1 _ _ B4
  have fa2 := frozen_of_row w1 _ 2 _ _ B4
  have fa3 := frozen_of_row w1 _ 3 _ _ B4
  have fa4 := frozen_of_row w1 _ 4 _ _ B4
  have fa5 := frozen_of_row w1 _ 5 _ _ B4
  simp only [List.getElem?_toArray, List.getElem?_cons_zero, List.getElem?_cons_succ] at s0 s1 k0 k1 k2 k3 k4 r0 r1 q0 q1 q2 q3 q4 q5 a0 a1 a2 a3 a4 a5
  have l0 : w.heap.size < w1.heap.size := by omega
  have l1 : w.heap.size + 1 < w1.heap.size := by omega
  have l2 : w.heap.size + 1 + 1 < w1.heap.size := by omega
  have l3 : w.heap.size + 1 + 1 + 1 < w1.heap.size := by omega
  have l4 : w.heap.size + 1 + 1 + 1 + 1 < w1.heap.size := by omega
  have hq1 : (0 : Int) < (s.queue.length : Int) := by omega
  obtain ⟨bq, oq, hQA, hBq, cq⟩ := (in_below H.out bw1).queue.txt1 hq0
  subst hQA
  rw [Nat.add_zero] at cq
  have hbq : bq < w1.heap.size := hBq
  have hbq4 : ¬ bq = w.heap.size + 1 + 1 + 1 + 1 := by
    obtain ⟨b', o', h1, h2, _⟩ := H.out.queue.txt1 hq0
    cases h1
    omega
  go_upto_region 21 with fail
  obtain ⟨w3, hw3⟩ : ∃ w3, w3 = (w1.setCell ⟨w.heap.size + 1 + 1 + 1 + 1, 1, none⟩ (.bool true)).setCell ⟨w.heap.size + 1 + 1 + 1 + 1, 2, none⟩ (.string s.queue[0]) := ⟨_, rfl⟩
  rw [← hw3]
  have zw3 : w3.heap.size = w1.heap.size := by rw [hw3]; simp [World.setCell]
  have bw3 : Below w.heap.size w w3 := by rw [hw3]; exact ((bw1.setCell (by show w.heap.size ≤ w.heap.size + 1 + 1 + 1 + 1; omega) _).setCell (by show w.heap.size ≤ w.heap.size + 1 + 1 + 1 + 1; omega) _)
  replace B0 : w3.heap[w.heap.size]? = some (.cells #[.slice PA s.pairs.length pc, .slice (some ⟨bq, oq, none⟩) s.queue.length qc] 25 (0, 0)) := by
    rw [hw3]
    refine (heap_setO (by omega)).trans ?_
    refine (heap_setO (by omega)).trans ?_
    exact B0
  replace B1 : w3.heap[w.heap.size + 1]? = some (.cells #[.int .i64 5, .string key, .string val, .string to', .slice gA gn gc] 46 (0, 0)) := by
    rw [hw3]
    refine (heap_setO (by omega)).trans ?_
    refine (heap_setO (by omega)).trans ?_
    exact B1
  replace B2 : w3.heap[w.heap.size + 1 + 1]? = some (.cells #[.slice none 0 0, .slice none 0 0] 25 (0, 0)) := by
    rw [hw3]
    refine (heap_setO (by omega)).trans ?_
    refine (heap_setO (by omega)).trans ?_
    exact B2
  replace B3 : w3.heap[w.heap.size + 1 + 1 + 1]? = some (.cells #[.int .i64 0, .bool false, .string ByteArray.empty, .slice none 0 0, .slice none 0 0, .int .u64 0] 50 (0, 0)) := by
    rw [hw3]
    refine (heap_setO (by omega)).trans ?_
    refine (heap_setO (by omega)).trans ?_
    exact B3
  replace B4 : w3.heap[w.heap.size + 1 + 1 + 1 + 1]? = some (.cells #[.int .i64 0, .bool true, .string s.queue[0], .slice none 0 0, .slice none 0 0, .int .u64 0] 50 (0, 0)) := by
    rw [hw3]
    have e0 := B4
    have e1 := heap_setCell_same _ (w.heap.size + 1 + 1 + 1 + 1) 1 _ _ (.bool true) e0
    have e2 := heap_setCell_same _ (w.heap.size + 1 + 1 + 1 + 1) 2 _ _ (.string s.queue[0]) e1
    exact e2
  clear hw3
  clear cq
  clear s0 s1 fs0 fs1 k0 k1 k2 k3 k4 r0 r1 fr0 fr1 q0 q1 q2 q3 q4 q5 fq0 fq1 fq2 fq3 fq4 fq5 a0 a1 a2 a3 a4 a5 fa0 fa1 fa2 fa3 fa4 fa5 l0 l1 l2 l3 l4
  have s0 := cell_of_row w3 _ 0 _ _ _ B0
  have s1 := cell_of_row w3 _ 1 _ _ _ B0
  have fs0 := frozen_of_row w3 _ 0 _ _ B0
  have fs1 := frozen_of_row w3 _ 1 _ _ B0
  have k0 := cell_of_row w3 _ 0 _ _ _ B1
  have k1 := cell_of_row w3 _ 1 _ _ _ B1
  have k2 := cell_of_row w3 _ 2 _ _ _ B1
  have k3 := cell_of_row w3 _ 3 _ _ _ B1
  have k4 := cell_of_row w3 _ 4 _ _ _ B1
  have r0 := cell_of_row w3 _ 0 _ _ _ B2
  have r1 := cell_of_row w3 _ 1 _ _ _ B2
  have fr0 := frozen_of_row w3 _ 0 _ _ B2
  have fr1 := frozen_of_row w3 _ 1 _ _ B2
  have q0 := cell_of_row w3 _ 0 _ _ _ B3
  have q1 := cell_of_row w3 _ 1 _ _ _ B3
  have q2 := cell_of_row w3 _ 2 _ _ _ B3
  have q3 := cell_of_row w3 _ 3 _ _ _ B3
  have q4 := cell_of_row w3 _ 4 _ _ _ B3
  have q5 := cell_of_row w3 _ 5 _ _ _ B3
  have fq0 := frozen_of_row w3 _ 0 _ _ B3
  have fq1 := frozen_of_row w3 _ 1 _ _ B3
  have fq2 := frozen_of_row w3 _ 2 _ _ B3
  have fq3 := frozen_of_row w3 _ 3 _ _ B3
  have fq4 := frozen_of_row w3 _ 4 _ _ B3
  have fq5 := frozen_of_row w3 _ 5 _ _ B3
  have a0 := cell_of_row w3 _ 0 _ _ _ B4
  have a1 := cell_of_row w3 _ 1 _ _ _ B4
  have a2 := cell_of_row w3 _ 2 _ _ _ B4
  have a3 := cell_of_row w3 _ 3 _ _ _ B4
  have a4 := cell_of_row w3 _ 4 _ _ _ B4
  have a5 := cell_of_row w3 _ 5 _ _ _ B4
  have fa0 := frozen_of_row w3 _ 0 _ _ B4
  have fa1 := frozen_of_row w3 _ 1 _ _ B4
  have fa2 := frozen_of_row w3 _ 2 _ _ B4
  have fa3 := frozen_of_row w3 _ 3 _ _ B4
  have fa4 := frozen_of_row w3 _ 4 _ _ B4
  have fa5 := frozen_of_row w3 _ 5 _ _ B4
  simp only [List.getElem?_toArray, List.getElem?_cons_zero, List.getElem?_cons_succ] at s0 s1 k0 k1 k2 k3 k4 r0 r1 q0 q1 q2 q3 q4 q5 a0 a1 a2 a3 a4 a5
  have l0 : w.heap.size < w3.heap.size := by omega
  have l1 : w.heap.size + 1 < w3.heap.size := by omega
  have l2 : w.heap.size + 1 + 1 < w3.heap.size := by omega
  have l3 : w.heap.size + 1 + 1 + 1 < w3.heap.size := by omega
  have l4 : w.heap.size + 1 + 1 + 1 + 1 < w3.heap.size := by omega
  go_wp2_with fail
  refine (refpop_any s PA pc (some ⟨bq, oq, none⟩) qc _ (in_below H.out bw3) (by have := HP.out; omega) (by have := HQ.out; omega)).mono ?_
  rintro e w4 hgi
  rw [← HT.out] at hgi
  obtain ⟨PX, px, QX, qx, rfl, hin, hlow, hb4⟩ := hgi
  have bw4 : Below w.heap.size w w4 := bw3.trans (hb4.mono bw3.size)
  have z4 := hb4.size
  clear s0 s1 fs0 fs1 k0 k1 k2 k3 k4 r0 r1 fr0 fr1 q0 q1 q2 q3 q4 q5 fq0 fq1 fq2 fq3 fq4 fq5 a0 a1 a2 a3 a4 a5 fa0 fa1 fa2 fa3 fa4 fa5 l0 l1 l2 l3 l4
  replace B0 : w4.heap[w.heap.size]? = some (.cells #[.slice PA s.pairs.length pc, .slice (some ⟨bq, oq, none⟩) s.queue.length qc] 25 (0, 0)) := (hb4.block _ (by omega)).trans B0
  replace B1 : w4.heap[w.heap.size + 1]? = some (.cells #[.int .i64 5, .string key, .string val, .string to', .slice gA gn gc] 46 (0, 0)) := (hb4.block _ (by omega)).trans B1
  replace B2 : w4.heap[w.heap.size + 1 + 1]? = some (.cells #[.slice none 0 0, .slice none 0 0] 25 (0, 0)) := (hb4.block _ (by omega)).trans B2
  replace B3 : w4.heap[w.heap.size + 1 + 1 + 1]? = some (.cells #[.int .i64 0, .bool false, .string ByteArray.empty, .slice none 0 0, .slice none 0 0, .int .u64 0] 50 (0, 0)) := (hb4.block _ (by omega)).trans B3
  replace B4 : w4.heap[w.heap.size + 1 + 1 + 1 + 1]? = some (.cells #[.int .i64 0, .bool true, .string s.queue[0], .slice none 0 0, .slice none 0 0, .int .u64 0] 50 (0, 0)) := (hb4.block _ (by omega)).trans B4
  have s0 := cell_of_row w4 _ 0 _ _ _ B0
  have s1 := cell_of_row w4 _ 1 _ _ _ B0
  have fs0 := frozen_of_row w4 _ 0 _ _ B0
  have fs1 := frozen_of_row w4 _ 1 _ _ B0
  have k0 := cell_of_row w4 _ 0 _ _ _ B1
  have k1 := cell_of_row w4 _ 1 _ _ _ B1
  have k2 := cell_of_row w4 _ 2 _ _ _ B1
  have k3 := cell_of_row w4 _ 3 _ _ _ B1
  have k4 := cell_of_row w4 _ 4 _ _ _ B1
  have r0 := cell_of_row w4 _ 0 _ _ _ B2
  have r1 := cell_of_row w4 _ 1 _ _ _ B2
  have fr0 := frozen_of_row w4 _ 0 _ _ B2
  have fr1 := frozen_of_row w4 _ 1 _ _ B2
  have q0 := cell_of_row w4 _ 0 _ _ _ B3
  have q1 := cell_of_row w4 _ 1 _ _ _ B3
  have q2 := cell_of_row w4 _ 2 _ _ _ B3
  have q3 := cell_of_row w4 _ 3 _ _ _ B3
  have q4 := cell_of_row w4 _ 4 _ _ _ B3
  have q5 := cell_of_row w4 _ 5 _ _ _ B3
  have fq0 := frozen_of_row w4 _ 0 _ _ B3
  have fq1 := frozen_of_row w4 _ 1 _ _ B3
  have fq2 := frozen_of_row w4 _ 2 _ _ B3
  have fq3 := frozen_of_row w4 _ 3 _ _ B3
  have fq4 := frozen_of_row w4 _ 4 _ _ B3
  have fq5 := frozen_of_row w4 _ 5 _ _ B3
  have a0 := cell_of_row w4 _ 0 _ _ _ B4
  have a1 := cell_of_row w4 _ 1 _ _ _ B4
  have a2 := cell_of_row w4 _ 2 _ _ _ B4
  have a3 := cell_of_row w4 _ 3 _ _ _ B4
  have a4 := cell_of_row w4 _ 4 _ _ _ B4
  have a5 := cell_of_row w4 _ 5 _ _ _ B4
  have fa0 := frozen_of_row w4 _ 0 _ _ B4
  have fa1 := frozen_of_row w4 _ 1 _ _ B4
  have fa2 := frozen_of_row w4 _ 2 _ _ B4
  have fa3 := frozen_of_row w4 _ 3 _ _ B4
  have fa4 := frozen_of_row w4 _ 4 _ _ B4
  have fa5 := frozen_of_row w4 _ 5 _ _ B4
  simp only [List.getElem?_toArray, List.getElem?_cons_zero, List.getElem?_cons_succ] at s0 s1 k0 k1 k2 k3 k4 r0 r1 q0 q1 q2 q3 q4 q5 a0 a1 a2 a3 a4 a5
  have l0 : w.heap.size < w4.heap.size := by omega
  have l1 : w.heap.size + 1 < w4.heap.size := by omega
  have l2 : w.heap.size + 1 + 1 < w4.heap.size := by omega
  have l3 : w.heap.size + 1 + 1 + 1 < w4.heap.size := by omega
  have l4 : w.heap.size + 1 + 1 + 1 + 1 < w4.heap.size := by omega
  go_upto_region 35 with fail
  obtain ⟨w5, hw5⟩ : ∃ w5, w5 = (w4.setCell ⟨w.heap.size, 0, none⟩ (.slice PX T.pairs.length px)).setCell ⟨w.heap.size, 1, none⟩ (.slice QX T.queue.length qx) := ⟨_, rfl⟩
  rw [← hw5]
  have zw5 : w5.heap.size = w4.heap.size := by rw [hw5]; simp [World.setCell]
  have bw5 : Below w.heap.size w w5 := by rw [hw5]; exact ((bw4.setCell (by show w.heap.size ≤ w.heap.size; omega) _).setCell (by show w.heap.size ≤ w.heap.size; omega) _)
  replace B0 : w5.heap[w.heap.size]? = some (.cells #[.slice PX T.pairs.length px, .slice QX T.queue.length qx] 25 (0, 0)) := by
    rw [hw5]
    have e0 := B0
    have e1 := heap_setCell_same _ (w.heap.size) 0 _ _ (.slice PX T.pairs.length px) e0
    have e2 := heap_setCell_same _ (w.heap.size) 1 _ _ (.slice QX T.queue.length qx) e1
    exact e2
  replace B1 : w5.heap[w.heap.size + 1]? = some (.cells #[.int .i64 5, .string key, .string val, .string to', .slice gA gn gc] 46 (0, 0)) := by
    rw [hw5]
    refine (heap_setO (by omega)).trans ?_
    refine (heap_setO (by omega)).trans ?_
    exact B1
  replace B2 : w5.heap[w.heap.size + 1 + 1]? = some (.cells #[.slice none 0 0, .slice none 0 0] 25 (0, 0)) := by
    rw [hw5]
    refine (heap_setO (by omega)).trans ?_
    refine (heap_setO (by omega)).trans ?_
    exact B2
  replace B3 : w5.heap[w.heap.size + 1 + 1 + 1]? = some (.cells #[.int .i64 0, .bool false, .string ByteArray.empty, .slice none 0 0, .slice none 0 0, .int .u64 0] 50 (0, 0)) := by
    rw [hw5]
    refine (heap_setO (by omega)).trans ?_
    refine (heap_setO (by omega)).trans ?_
    exact B3
  replace B4 : w5.heap[w.heap.size + 1 + 1 + 1 + 1]? = some (.cells #[.int .i64 0, .bool true, .string s.queue[0], .slice none 0 0, .slice none 0 0, .int .u64 0] 50 (0, 0)) := by
    rw [hw5]
    refine (heap_setO (by omega)).trans ?_
    refine (heap_setO (by omega)).trans ?_
    exact B4
  have HIN := hid (show ShIn w5 w4.heap.size PX px QX qx T from by rw [hw5]; exact (ShIn.lowCell' (ShIn.lowCell' hin hlow (by omega) _) hlow (by omega) _))
  clear hw5
  clear s0 s1 fs0 fs1 k0 k1 k2 k3 k4 r0 r1 fr0 fr1 q0 q1 q2 q3 q4 q5 fq0 fq1 fq2 fq3 fq4 fq5 a0 a1 a2 a3 a4 a5 fa0 fa1 fa2 fa3 fa4 fa5 l0 l1 l2 l3 l4
  have s0 := cell_of_row w5 _ 0 _ _ _ B0
  have s1 := cell_of_row w5 _ 1 _ _ _ B0
  have fs0 := frozen_of_row w5 _ 0 _ _ B0
  have fs1 := frozen_of_row w5 _ 1 _ _ B0
  have k0 := cell_of_row w5 _ 0 _ _ _ B1
  have k1 := cell_of_row w5 _ 1 _ _ _ B1
  have k2 := cell_of_row w5 _ 2 _ _ _ B1
  have k3 := cell_of_row w5 _ 3 _ _ _ B1
  have k4 := cell_of_row w5 _ 4 _ _ _ B1
  have r0 := cell_of_row w5 _ 0 _ _ _ B2
  have r1 := cell_of_row w5 _ 1 _ _ _ B2
  have fr0 := frozen_of_row w5 _ 0 _ _ B2
  have fr1 := frozen_of_row w5 _ 1 _ _ B2
  have q0 := cell_of_row w5 _ 0 _ _ _ B3
  have q1 := cell_of_row w5 _ 1 _ _ _ B3
  have q2 := cell_of_row w5 _ 2 _ _ _ B3
  have q3 := cell_of_row w5 _ 3 _ _ _ B3
  have q4 := cell_of_row w5 _ 4 _ _ _ B3
  have q5 := cell_of_row w5 _ 5 _ _ _ B3
  have fq0 := frozen_of_row w5 _ 0 _ _ B3
  have fq1 := frozen_of_row w5 _ 1 _ _ B3
  have fq2 := frozen_of_row w5 _ 2 _ _ B3
  have fq3 := frozen_of_row w5 _ 3 _ _ B3
  have fq4 := frozen_of_row w5 _ 4 _ _ B3
  have fq5 := frozen_of_row w5 _ 5 _ _ B3
  have a0 := cell_of_row w5 _ 0 _ _ _ B4
  have a1 := cell_of_row w5 _ 1 _ _ _ B4
  have a2 := cell_of_row w5 _ 2 _ _ _ B4
  have a3 := cell_of_row w5 _ 3 _ _ _ B4
  have a4 := cell_of_row w5 _ 4 _ _ _ B4
  have a5 := cell_of_row w5 _ 5 _ _ _ B4
  have fa0 := frozen_of_row w5 _ 0 _ _ B4
  have fa1 := frozen_of_row w5 _ 1 _ _ B4
  have fa2 := frozen_of_row w5 _ 2 _ _ B4
  have fa3 := frozen_of_row w5 _ 3 _ _ B4
  have fa4 := frozen_of_row w5 _ 4 _ _ B4
  have fa5 := frozen_of_row w5 _ 5 _ _ B4
  simp only [List.getElem?_toArray, List.getElem?_cons_zero, List.getElem?_cons_succ] at s0 s1 k0 k1 k2 k3 k4 r0 r1 q0 q1 q2 q3 q4 q5 a0 a1 a2 a3 a4 a5
  have l0 : w.heap.size < w5.heap.size := by omega
  have l1 : w.heap.size + 1 < w5.heap.size := by omega
  have l2 : w.heap.size + 1 + 1 < w5.heap.size := by omega
  have l3 : w.heap.size + 1 + 1 + 1 < w5.heap.size := by omega
  have l4 : w.heap.size + 1 + 1 + 1 + 1 < w5.heap.size := by omega
  go_region
  all_goals
    go_wp2_with fail
    refine bodyPost_ret (v := .tuple #[.agg #[.slice PX T.pairs.length px, .slice QX T.queue.length qx], .agg #[.int .i64 0, .bool true, .string s.queue[0], .slice none 0 0, .slice none 0 0, .int .u64 0]]) (by simp [results, Tryz.results30, go_sem, r0, r1, q0, q1, q2, q3, q4, q5]) rfl ⟨PX, px, QX, qx, none, 0, none, 0, rfl, ?_, .inl ⟨hlow.1.mono (by omega), hlow.2.mono (by omega)⟩, Arr.nil, Nat.le_refl _, by omega, Arr.nil, Nat.le_refl _, by omega, ?_⟩
    · refine ShIn.more (B := w4.heap.size) ?_ (by simp; omega)
      repeat (first | with_reducible exact HIN.out | with_reducible refine ShIn.dr' ?_ | with_reducible refine ShIn.lowCell' ?_ hlow (by omega) _)
    · exact (by repeat (first | with_reducible exact Below.refl _ _ | with_reducible assumption | with_reducible refine Below.drew ?_ | with_reducible refine below_drewN ?_ _ | with_reducible refine Below.alloc ?_ (by first | omega | (simp; done) | (simp; omega)) _ | with_reducible refine Below.setCell ?_ (by first | omega | (simp; done) | (simp; omega)) _))
end Go.Proofs.YtamcehfcjcmpmaaGreatDoor
