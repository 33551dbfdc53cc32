/- The reference's Apply of any call. -/
/- The reference's Apply: scan. -/
import Derived.Test.YtamcehfcjcmpmaaGreatDoorZAp2
namespace Go.Proofs.YtamcehfcjcmpmaaGreatDoor
open Go.RowKit

theorem empty_toList' : ByteArray.empty.toList = [] := by rw [Lib.toList_data]; rfl
theorem inR_iff {lo hi : ByteArray} {x : Pair} : inR lo hi x = true ↔ kl x.key lo = false ∧ (hi = ByteArray.empty ∨ kl x.key hi = true) := by
  unfold inR
  rw [cmpB_kl, cmpB_kl, Bool.and_eq_true, Bool.or_eq_true, decide_eq_true_iff, decide_eq_true_iff, beq_iff_eq, toList_iff]
  constructor
  · rintro ⟨h1, h2⟩
    refine ⟨?_, h2.imp id fun h => ?_⟩
    · cases e : kl x.key lo with
      | false => rfl
      | true => rw [if_pos e] at h1; omega
    · cases e : kl x.key hi with
      | true => rfl
      | false => rw [if_neg (by simp [e])] at h; split at h <;> omega
  · rintro ⟨h1, h2⟩
    refine ⟨?_, h2.imp id fun h => ?_⟩
    · rw [if_neg (by simp [h1])]; split <;> omega
    · rw [if_pos h]; omega

set_option maxHeartbeats 4000000 in
set_option maxRecDepth 100000 in
theorem refap_k6 (s : Shelf) (PA : Option Addr) (pc : Nat) (QA : Option Addr) (qc : Nat) (key val to' : ByteArray) (gA : Option Addr) (gn gc : Nat) (g : List Call0) (w : World) (h : ShIn w w.heap.size PA pc QA qc s) (hp : s.pairs.length ≤ 90000) (hq : s.queue.length ≤ 90000) (hc : CallIn w w.heap.size ⟨6, key, val, to', gA, gn, gc⟩ g) (hgood : goodI ⟨6, key, val, to', gA, gn, gc⟩ g = 0) :
    Calls Tryz.prog 30 #[.agg #[.slice PA s.pairs.length pc, .slice QA s.queue.length qc], .agg #[.int .i64 6, .string key, .string val, .string to', .slice gA gn gc]] w (GivesRA PA QA s s { ans0 0 with pairs := scanned key to' s.pairs } w) := by
  have H := hid h
  have HC := hid hc
  have HG := hid hgood
  have HP := hid hp
  have HQ := hid hq
  have hplen := h.plen
  have hpmax := h.pmax
  have hqlen := h.qlen
  have hqmax := h.qmax
  clear h hc hgood hp hq
  go_enter Tryz.func30, Tryz.ntmps30
  go_wp2_with fail
  refine (refgood_any ⟨6, key, val, to', gA, gn, gc⟩ g _ ((HC.out.below (by repeat (first | exact Below.refl _ _ | assumption | refine Below.drew ?_ | refine below_drewN ?_ _ | refine Below.alloc ?_ (by first | omega | (simp; done) | (simp; omega)) _ | refine Below.setCell ?_ (by first | omega | (simp; done) | (simp; omega)) _))).more (by first | omega | (simp; done) | (simp; omega)))).mono ?_
  rintro e w1 ⟨rfl, hb1⟩
  rw [HG.out]
  have z1 := hb1.size
  simp only [World.size_alloc] at z1
  have bw1 : Below w.heap.size w w1 := Below.trans (by repeat (first | exact Below.refl _ _ | assumption | refine Below.drew ?_ | refine below_drewN ?_ _ | refine Below.alloc ?_ (by first | omega | (simp; done) | (simp; omega)) _ | refine Below.setCell ?_ (by first | omega | (simp; done) | (simp; omega)) _)) (hb1.mono (show w.heap.size ≤ _ from (by first | omega | (simp; done) | (simp; omega))))
  have B0 : w1.heap[w.heap.size]? = some (.cells #[.slice PA s.pairs.length pc, .slice QA s.queue.length qc] 25 (0, 0)) := (hb1.block _ (by first | (simp; done) | (simp; omega))).trans (by repeat (first | with_reducible exact heap_newR (by first | omega | (simp; done) | (simp; omega)) | exact heap_newR (by first | omega | (simp; done) | (simp; omega)) | (with_reducible refine (Below.heap_alloc _ _ _ ?_).trans ?_; exact (by first | omega | (simp; done) | (simp; omega)))))
  have B1 : w1.heap[w.heap.size + 1]? = some (.cells #[.int .i64 6, .string key, .string val, .string to', .slice gA gn gc] 46 (0, 0)) := (hb1.block _ (by first | (simp; done) | (simp; omega))).trans (by repeat (first | with_reducible exact heap_newR (by first | omega | (simp; done) | (simp; omega)) | exact heap_newR (by first | omega | (simp; done) | (simp; omega)) | (with_reducible refine (Below.heap_alloc _ _ _ ?_).trans ?_; exact (by first | omega | (simp; done) | (simp; omega)))))
  have B2 : w1.heap[w.heap.size + 1 + 1]? = some (.cells #[.slice none 0 0, .slice none 0 0] 25 (0, 0)) := (hb1.block _ (by first | (simp; done) | (simp; omega))).trans (by repeat (first | with_reducible exact heap_newR (by first | omega | (simp; done) | (simp; omega)) | exact heap_newR (by first | omega | (simp; done) | (simp; omega)) | (with_reducible refine (Below.heap_alloc _ _ _ ?_).trans ?_; exact (by first | omega | (simp; done) | (simp; omega)))))
  have B3 : w1.heap[w.heap.size + 1 + 1 + 1]? = some (.cells #[.int .i64 0, .bool false, .string ByteArray.empty, .slice none 0 0, .slice none 0 0, .int .u64 0] 50 (0, 0)) := (hb1.block _ (by first | (simp; done) | (simp; omega))).trans (by repeat (first | with_reducible exact heap_newR (by first | omega | (simp; done) | (simp; omega)) | exact heap_newR (by first | omega | (simp; done) | (simp; omega)) | (with_reducible refine (Below.heap_alloc _ _ _ ?_).trans ?_; exact (by first | omega | (simp; done) | (simp; omega)))))
  have B4 : w1.heap[w.heap.size + 1 + 1 + 1 + 1]? = some (.cells #[.int .i64 0, .bool false, .string ByteArray.empty, .slice none 0 0, .slice none 0 0, .int .u64 0] 50 (0, 0)) := (hb1.block _ (by first | (simp; done) | (simp; omega))).trans (by repeat (first | with_reducible exact heap_newR (by first | omega | (simp; done) | (simp; omega)) | exact heap_newR (by first | omega | (simp; done) | (simp; omega)) | (with_reducible refine (Below.heap_alloc _ _ _ ?_).trans ?_; exact (by first | omega | (simp; done) | (simp; omega)))))
  clear hb1
  have s0 := cell_of_row w1 _ 0 _ _ _ B0
  have s1 := cell_of_row w1 _ 1 _ _ _ B0
  have fs0 := frozen_of_row w1 _ 0 _ _ B0
  have fs1 := frozen_of_row w1 _ 1 _ _ B0
  have k0 := cell_of_row w1 _ 0 _ _ _ B1
  have k1 := cell_of_row w1 _ 1 _ _ _ B1
  have k2 := cell_of_row w1 _ 2 _ _ _ B1
  have k3 := cell_of_row w1 _ 3 _ _ _ B1
  have k4 := cell_of_row w1 _ 4 _ _ _ B1
  have r0 := cell_of_row w1 _ 0 _ _ _ B2
  have r1 := cell_of_row w1 _ 1 _ _ _ B2
  have fr0 := frozen_of_row w1 _ 0 _ _ B2
  have fr1 := frozen_of_row w1 _ 1 _ _ B2
  have q0 := cell_of_row w1 _ 0 _ _ _ B3
  have q1 := cell_of_row w1 _ 1 _ _ _ B3
  have q2 := cell_of_row w1 _ 2 _ _ _ B3
  have q3 := cell_of_row w1 _ 3 _ _ _ B3
  have q4 := cell_of_row w1 _ 4 _ _ _ B3
  have q5 := cell_of_row w1 _ 5 _ _ _ B3
  have fq0 := frozen_of_row w1 _ 0 _ _ B3
  have fq1 := frozen_of_row w1 _ 1 _ _ B3
  have fq2 := frozen_of_row w1 _ 2 _ _ B3
  have fq3 := frozen_of_row w1 _ 3 _ _ B3
  have fq4 := frozen_of_row w1 _ 4 _ _ B3
  have fq5 := frozen_of_row w1 _ 5 _ _ B3
  have a0 := cell_of_row w1 _ 0 _ _ _ B4
  have a1 := cell_of_row w1 _ 1 _ _ _ B4
  have a2 := cell_of_row w1 _ 2 _ _ _ B4
  have a3 := cell_of_row w1 _ 3 _ _ _ B4
  have a4 := cell_of_row w1 _ 4 _ _ _ B4
  have a5 := cell_of_row w1 _ 5 _ _ _ B4
  have fa0 := frozen_of_row w1 _ 0 _ _ B4
  have fa1 := frozen_of_row w1 _ 1 _ _ B4
  have fa2 := frozen_of_row w1 _ 2 _ _ B4
  have fa3 := frozen_of_row w1 _ 3 _ _ B4
  have fa4 := frozen_of_row w1 _ 4 _ _ B4
  have fa5 := frozen_of_row w1 _ 5 _ _ B4
  simp only [List.getElem?_toArray, List.getElem?_cons_zero, List.getElem?_cons_succ] at s0 s1 k0 k1 k2 k3 k4 r0 r1 q0 q1 q2 q3 q4 q5 a0 a1 a2 a3 a4 a5
  have l0 : w.heap.size < w1.heap.size := by omega
  have l1 : w.heap.size + 1 < w1.heap.size := by omega
  have l2 : w.heap.size + 1 + 1 < w1.heap.size := by omega
  have l3 : w.heap.size + 1 + 1 + 1 < w1.heap.size := by omega
  have l4 : w.heap.size + 1 + 1 + 1 + 1 < w1.heap.size := by omega
  have HB0 := hid B0
  have HB1 := hid B1
  have HB2 := hid B2
  have HB3 := hid B3
  have HST := hid (show Acc Pair.enc 54 2 w1 w1 (w.heap.size + 1 + 1 + 1 + 1) 50 [.int .i64 0, .bool false, .string ByteArray.empty] [.slice none 0 0, .int .u64 0] none 0 [] from ⟨Below.refl _ _, by omega, B4, Own.none_⟩)
  obtain ⟨i0, hi0, hz0, hz1', hz2⟩ := info_parts info_pair
  have HI := hid hi0
  have HZ0 := hid hz0
  have HZ1 := hid hz1'
  have HZ2 := hid hz2
  have HBW1 := hid bw1
  clear hi0 hz0 hz1' hz2
  go_wp2_with fail
  clear B0 B1 B2 B3 B4 bw1
  clear s0 s1 fs0 fs1 k0 k1 k2 k3 k4 r0 r1 fr0 fr1 q0 q1 q2 q3 q4 q5 fq0 fq1 fq2 fq3 fq4 fq5 a0 a1 a2 a3 a4 a5 fa0 fa1 fa2 fa3 fa4 fa5 l0 l1 l2 l3 l4
  go_loopw [8] (fun vi wr => ∃ (k : Nat) (A : Option Addr) (c : Nat), k ≤ s.pairs.length ∧ vi = .int .i64 k ∧ Acc Pair.enc 54 2 w1 wr (w.heap.size + 1 + 1 + 1 + 1) 50 [.int .i64 0, .bool false, .string ByteArray.empty] [.slice none 0 0, .int .u64 0] A c (scanned key to' (s.pairs.take k))) (fun vi _ => s.pairs.length - (intOf vi).toNat)
  case atStart => exact ⟨0, none, 0, Nat.zero_le _, rfl, HST.out⟩
  case round =>
    obtain ⟨k, A, c, hkl, rfl, hacc⟩ := hrel
    obtain ⟨L, hL⟩ : ∃ L, L = scanned key to' (s.pairs.take k) := ⟨_, rfl⟩
    rw [← hL] at hacc
    have HL := hid hL
    have HLL := hid (show L.length ≤ 90000 by have := HP.out; have := scanned_len key to' (s.pairs.take k); rw [hL]; rw [List.length_take] at this; omega)
    have HA := hid hacc
    have zr := hacc.below.size
    have hlt0 := hacc.lt
    have B0 : wr.heap[w.heap.size]? = some (.cells #[.slice PA s.pairs.length pc, .slice QA s.queue.length qc] 25 (0, 0)) := (hacc.below.block _ (by omega)).trans HB0.out
    have B1 : wr.heap[w.heap.size + 1]? = some (.cells #[.int .i64 6, .string key, .string val, .string to', .slice gA gn gc] 46 (0, 0)) := (hacc.below.block _ (by omega)).trans HB1.out
    have B2 : wr.heap[w.heap.size + 1 + 1]? = some (.cells #[.slice none 0 0, .slice none 0 0] 25 (0, 0)) := (hacc.below.block _ (by omega)).trans HB2.out
    have B3 : wr.heap[w.heap.size + 1 + 1 + 1]? = some (.cells #[.int .i64 0, .bool false, .string ByteArray.empty, .slice none 0 0, .slice none 0 0, .int .u64 0] 50 (0, 0)) := (hacc.below.block _ (by omega)).trans HB3.out
    have B4 : wr.heap[w.heap.size + 1 + 1 + 1 + 1]? = some (.cells #[.int .i64 0, .bool false, .string ByteArray.empty, .slice A L.length c, .slice none 0 0, .int .u64 0] 50 (0, 0)) := hacc.row
    have hbw := HBW1.out.trans (hacc.below.mono (by omega))
    have HBW := hid hbw
    clear hL hacc hbw
    have s0 := cell_of_row wr _ 0 _ _ _ B0
    have s1 := cell_of_row wr _ 1 _ _ _ B0
    have fs0 := frozen_of_row wr _ 0 _ _ B0
    have fs1 := frozen_of_row wr _ 1 _ _ B0
    have k0 := cell_of_row wr _ 0 _ _ _ B1
    have k1 := cell_of_row wr _ 1 _ _ _ B1
    have k2 := cell_of_row wr _ 2 _ _ _ B1
    have k3 := cell_of_row wr _ 3 _ _ _ B1
    have k4 := cell_of_row wr _ 4 _ _ _ B1
    have r0 := cell_of_row wr _ 0 _ _ _ B2
    have r1 := cell_of_row wr _ 1 _ _ _ B2
    have fr0 := frozen_of_row wr _ 0 _ _ B2
    have fr1 := frozen_of_row wr _ 1 _ _ B2
    have q0 := cell_of_row wr _ 0 _ _ _ B3
    have q1 := cell_of_row wr _ 1 _ _ _ B3
    have q2 := cell_of_row wr _ 2 _ _ _ B3
    have q3 := cell_of_row wr _ 3 _ _ _ B3
    have q4 := cell_of_row wr _ 4 _ _ _ B3
    have q5 := cell_of_row wr _ 5 _ _ _ B3
    have fq0 := frozen_of_row wr _ 0 _ _ B3
    have fq1 := frozen_of_row wr _ 1 _ _ B3
    have fq2 := frozen_of_row wr _ 2 _ _ B3
    have fq3 := frozen_of_row wr _ 3 _ _ B3
    have fq4 := frozen_of_row wr _ 4 _ _ B3
    have fq5 := frozen_of_row wr _ 5 _ _ B3
    have a0 := cell_of_row wr _ 0 _ _ _ B4
    have a1 := cell_of_row wr _ 1 _ _ _ B4
    have a2 := cell_of_row wr _ 2 _ _ _ B4
    have a3 := cell_of_row wr _ 3 _ _ _ B4
    have a4 := cell_of_row wr _ 4 _ _ _ B4
    have a5 := cell_of_row wr _ 5 _ _ _ B4
    have fa0 := frozen_of_row wr _ 0 _ _ B4
    have fa1 := frozen_of_row wr _ 1 _ _ B4
    have fa2 := frozen_of_row wr _ 2 _ _ B4
    have fa3 := frozen_of_row wr _ 3 _ _ B4
    have fa4 := frozen_of_row wr _ 4 _ _ B4
    have fa5 := frozen_of_row wr _ 5 _ _ B4
    simp only [List.getElem?_toArray, List.getElem?_cons_zero, List.getElem?_cons_succ] at s0 s1 k0 k1 k2 k3 k4 r0 r1 q0 q1 q2 q3 q4 q5 a0 a1 a2 a3 a4 a5
    have l0 : w.heap.size < wr.heap.size := by omega
    have l1 : w.heap.size + 1 < wr.heap.size := by omega
    have l2 : w.heap.size + 1 + 1 < wr.heap.size := by omega
    have l3 : w.heap.size + 1 + 1 + 1 < wr.heap.size := by omega
    have l4 : w.heap.size + 1 + 1 + 1 + 1 < wr.heap.size := by omega
    clear B0 B1 B2 B3 B4
    by_cases hlt : k < s.pairs.length
    · obtain ⟨b, off, rfl, hB, p0, p1⟩ := (H.out.pairs.below HBW.out).pair hlt
      have hlk : (k : Int) < (s.pairs.length : Int) := by omega
      have hbn : b < wr.heap.size := by omega
      cases g1 : Op.bytesLess s.pairs[k].key.toList key.toList with
      | true =>
        have HIN := hid (show ¬ inR key to' s.pairs[k] = true by rw [inR_iff]; intro h; have h1 := h.1; unfold kl at h1; rw [g1] at h1; cases h1)
        have HS := hid (show L = scanned key to' (s.pairs.take (k + 1)) by rw [scanned_succ hlt, if_neg HIN.out, HL.out]; simp)
        go_wp2_with fail
        go_quiet (fail)
        go_wp2_with fail
        exact ⟨⟨k + 1, A, c, by omega, by go_num, by rw [← HS.out]; exact HA.out.keep (by repeat (first | exact Below.refl _ _ | assumption | refine Below.drew ?_ | refine below_drewN ?_ _ | refine Below.alloc ?_ (by first | omega | (simp; done) | (simp; omega)) _ | refine Below.setCell ?_ (by first | omega | (simp; done) | (simp; omega)) _))⟩, by simp [intOf]; omega⟩
      | false =>
        by_cases g2 : to' = ByteArray.empty
        · have g5 : to'.toList = [] := by rw [g2, empty_toList']
          have g3 : (to'.toList == ByteArray.empty.toList) = true := by simp [g2]
          have g6 : (to'.toList == []) = true := by simp [g5]
          have HIN := hid (show inR key to' s.pairs[k] = true by rw [inR_iff]; exact ⟨g1, .inl g2⟩)
          clear g2
          have HS := hid (show L ++ [s.pairs[k]] = scanned key to' (s.pairs.take (k + 1)) by rw [scanned_succ hlt, if_pos HIN.out, HL.out])
          go_wp2_with fail
          go_quiet (fail)
          go_wp2_with fail
          obtain ⟨wq, hwq⟩ : ∃ wq, wq = wr.drewN nq := ⟨_, rfl⟩
          rw [← hwq]
          have HAq := hid (show Acc Pair.enc 54 2 w1 wq (w.heap.size + 1 + 1 + 1 + 1) 50 [.int .i64 0, .bool false, .string ByteArray.empty] [.slice none 0 0, .int .u64 0] A c L from by rw [hwq]; exact HA.out.keep (below_drewN (Below.refl _ _) _))
          have zq : wq.heap.size = wr.heap.size := by first | (rw [hwq]; done) | (rw [hwq]; rfl)
          have bwq : Below w.heap.size w wq := by rw [hwq]; exact below_drewN HBW.out _
          have s0' : wq.cell? ⟨w.heap.size, 0, none⟩ = some (.slice (some ⟨b, off, none⟩) s.pairs.length pc) := (by first | (rw [hwq]; done) | (rw [hwq]; exact s0))
          have a3' : wq.cell? ⟨w.heap.size + 1 + 1 + 1 + 1, 3, none⟩ = some (.slice A L.length c) := (by first | (rw [hwq]; done) | (rw [hwq]; exact a3))
          have fa3' : wq.frozen? ⟨w.heap.size + 1 + 1 + 1 + 1, 3, none⟩ = false := (by first | (rw [hwq]; done) | (rw [hwq]; exact fa3))
          have p0' : wq.cell? ⟨b, off + k * 2, none⟩ = some (.string s.pairs[k].key) := (by first | (rw [hwq]; done) | (rw [hwq]; exact p0))
          have p1' : wq.cell? ⟨b, off + k * 2 + 1, none⟩ = some (.string s.pairs[k].val) := (by first | (rw [hwq]; done) | (rw [hwq]; exact p1))
          have l0' : w.heap.size < wq.heap.size := by omega
          have l4' : w.heap.size + 1 + 1 + 1 + 1 < wq.heap.size := by omega
          have hbn' : b < wq.heap.size := by omega
          clear hwq
          go_region_law (refine step_append_Own (l := L) (m := [s.pairs[k]]) (A := A) (c := c) (lo := w.heap.size + 1 + 1 + 1 + 1 + 1) _ rfl (.tmp 118) (.tmp 124) 22 rfl i0 _ 32 Tryz.underlying22 HI.out HZ0.out HZ1.out HZ2.out rfl (by decide) Pair.enc_len Pair.enc_one (by simp [Act.eval]) (HAq.out.own.below (by repeat (first | exact Below.refl _ _ | assumption | refine Below.drew ?_ | refine below_drewN ?_ _ | refine Below.alloc ?_ (by first | omega | (simp; done) | (simp; omega)) _ | refine Below.setCell ?_ (by first | omega | (simp; done) | (simp; omega)) _))) (A2 := some ⟨wq.heap.size, 0, none⟩) 1 (by simp [Act.eval]) (arr_onePair (vb := wq.heap.size) (x := s.pairs[k]) (heap_newR rfl)) (by have := HLL.out; unfold maxLen; simp; omega) (by have := HLL.out; simp; omega) (by simp; omega) ?_; intro A' c' w' hown hgr hloc; have hpp := HAq.out.mid (by repeat (first | exact Below.refl _ _ | assumption | refine Below.drew ?_ | refine below_drewN ?_ _ | refine Below.alloc ?_ (by first | omega | (simp; done) | (simp; omega)) _ | refine Below.setCell ?_ (by first | omega | (simp; done) | (simp; omega)) _)) hgr; have e31 : w'.cell? ⟨w.heap.size + 1 + 1 + 1 + 1, 3, none⟩ = some (.slice A L.length c) := (by rw [cell_of_row w' _ 3 _ _ _ hpp]; rfl); have f31 := frozen_of_row w' _ 3 _ _ hpp)
          all_goals go_wp2
          all_goals
            refine ⟨⟨k + 1, A', c', by omega, by go_num, by rw [← HS.out]; exact HAq.out.push (by repeat (first | exact Below.refl _ _ | assumption | refine Below.drew ?_ | refine below_drewN ?_ _ | refine Below.alloc ?_ (by first | omega | (simp; done) | (simp; omega)) _ | refine Below.setCell ?_ (by first | omega | (simp; done) | (simp; omega)) _)) hgr hown (by simp) rfl⟩, by simp [intOf]; omega⟩
        · have g3 : (to'.toList == ByteArray.empty.toList) = false := by rw [beq_eq_false_iff_ne]; exact fun h => g2 (toList_inj h)
          have g5 : ¬ to'.toList = [] := fun h => g2 (toList_inj (by rw [h, empty_toList']))
          have g6 : (to'.toList == []) = false := by rw [beq_eq_false_iff_ne]; exact g5
          cases g4 : Op.bytesLess s.pairs[k].key.toList to'.toList with
          | true =>
            have HIN := hid (show inR key to' s.pairs[k] = true by rw [inR_iff]; exact ⟨g1, .inr g4⟩)
            have HS := hid (show L ++ [s.pairs[k]] = scanned key to' (s.pairs.take (k + 1)) by rw [scanned_succ hlt, if_pos HIN.out, HL.out])
            go_wp2_with fail
            go_quiet (fail)
            go_wp2_with fail
            obtain ⟨wq, hwq⟩ : ∃ wq, wq = wr.drewN nq := ⟨_, rfl⟩
            rw [← hwq]
            have HAq := hid (show Acc Pair.enc 54 2 w1 wq (w.heap.size + 1 + 1 + 1 + 1) 50 [.int .i64 0, .bool false, .string ByteArray.empty] [.slice none 0 0, .int .u64 0] A c L from by rw [hwq]; exact HA.out.keep (below_drewN (Below.refl _ _) _))
            have zq : wq.heap.size = wr.heap.size := by first | (rw [hwq]; done) | (rw [hwq]; rfl)
            have bwq : Below w.heap.size w wq := by rw [hwq]; exact below_drewN HBW.out _
            have s0' : wq.cell? ⟨w.heap.size, 0, none⟩ = some (.slice (some ⟨b, off, none⟩) s.pairs.length pc) := (by first | (rw [hwq]; done) | (rw [hwq]; exact s0))
            have a3' : wq.cell? ⟨w.heap.size + 1 + 1 + 1 + 1, 3, none⟩ = some (.slice A L.length c) := (by first | (rw [hwq]; done) | (rw [hwq]; exact a3))
            have fa3' : wq.frozen? ⟨w.heap.size + 1 + 1 + 1 + 1, 3, none⟩ = false := (by first | (rw [hwq]; done) | (rw [hwq]; exact fa3))
            have p0' : wq.cell? ⟨b, off + k * 2, none⟩ = some (.string s.pairs[k].key) := (by first | (rw [hwq]; done) | (rw [hwq]; exact p0))
            have p1' : wq.cell? ⟨b, off + k * 2 + 1, none⟩ = some (.string s.pairs[k].val) := (by first | (rw [hwq]; done) | (rw [hwq]; exact p1))
            have l0' : w.heap.size < wq.heap.size := by omega
            have l4' : w.heap.size + 1 + 1 + 1 + 1 < wq.heap.size := by omega
            have hbn' : b < wq.heap.size := by omega
            clear hwq
            go_region_law (refine step_append_Own (l := L) (m := [s.pairs[k]]) (A := A) (c := c) (lo := w.heap.size + 1 + 1 + 1 + 1 + 1) _ rfl (.tmp 118) (.tmp 124) 22 rfl i0 _ 32 Tryz.underlying22 HI.out HZ0.out HZ1.out HZ2.out rfl (by decide) Pair.enc_len Pair.enc_one (by simp [Act.eval]) (HAq.out.own.below (by repeat (first | exact Below.refl _ _ | assumption | refine Below.drew ?_ | refine below_drewN ?_ _ | refine Below.alloc ?_ (by first | omega | (simp; done) | (simp; omega)) _ | refine Below.setCell ?_ (by first | omega | (simp; done) | (simp; omega)) _))) (A2 := some ⟨wq.heap.size, 0, none⟩) 1 (by simp [Act.eval]) (arr_onePair (vb := wq.heap.size) (x := s.pairs[k]) (heap_newR rfl)) (by have := HLL.out; unfold maxLen; simp; omega) (by have := HLL.out; simp; omega) (by simp; omega) ?_; intro A' c' w' hown hgr hloc; have hpp := HAq.out.mid (by repeat (first | exact Below.refl _ _ | assumption | refine Below.drew ?_ | refine below_drewN ?_ _ | refine Below.alloc ?_ (by first | omega | (simp; done) | (simp; omega)) _ | refine Below.setCell ?_ (by first | omega | (simp; done) | (simp; omega)) _)) hgr; have e31 : w'.cell? ⟨w.heap.size + 1 + 1 + 1 + 1, 3, none⟩ = some (.slice A L.length c) := (by rw [cell_of_row w' _ 3 _ _ _ hpp]; rfl); have f31 := frozen_of_row w' _ 3 _ _ hpp)
            all_goals go_wp2
            all_goals
              refine ⟨⟨k + 1, A', c', by omega, by go_num, by rw [← HS.out]; exact HAq.out.push (by repeat (first | exact Below.refl _ _ | assumption | refine Below.drew ?_ | refine below_drewN ?_ _ | refine Below.alloc ?_ (by first | omega | (simp; done) | (simp; omega)) _ | refine Below.setCell ?_ (by first | omega | (simp; done) | (simp; omega)) _)) hgr hown (by simp) rfl⟩, by simp [intOf]; omega⟩
          | false =>
            have HIN := hid (show ¬ inR key to' s.pairs[k] = true by rw [inR_iff]; rintro ⟨_, h | h⟩; exact g2 h; unfold kl at h; rw [g4] at h; cases h)
            have HS := hid (show L = scanned key to' (s.pairs.take (k + 1)) by rw [scanned_succ hlt, if_neg HIN.out, HL.out]; simp)
            go_wp2_with fail
            go_quiet (fail)
            go_wp2_with fail
            exact ⟨⟨k + 1, A, c, by omega, by go_num, by rw [← HS.out]; exact HA.out.keep (by repeat (first | exact Below.refl _ _ | assumption | refine Below.drew ?_ | refine below_drewN ?_ _ | refine Below.alloc ?_ (by first | omega | (simp; done) | (simp; omega)) _ | refine Below.setCell ?_ (by first | omega | (simp; done) | (simp; omega)) _))⟩, by simp [intOf]; omega⟩
    · have hkk : s.pairs.take k = s.pairs := List.take_of_length_le (by omega)
      have HK := hid (show L = scanned key to' s.pairs by rw [HL.out, hkk])
      have hlk : ¬ (k : Int) < (s.pairs.length : Int) := by omega
      have HKL := hid (show ({ ans0 0 with pairs := scanned key to' s.pairs } : Ans).pairs = L from HK.out.symm)
      clear hkk
      have hbwr := HBW.out
      have hOA := HA.out.own
      go_upto_region 35 with fail
      go_region
      all_goals
        go_wp2_with fail
        refine bodyPost_ret (v := .tuple #[.agg #[.slice PA s.pairs.length pc, .slice QA s.queue.length qc], .agg #[.int .i64 0, .bool false, .string ByteArray.empty, .slice A L.length c, .slice none 0 0, .int .u64 0]]) (by simp [results, Tryz.results30, go_sem, r0, r1, q0, q1, q2, q3, q4, q5]) rfl ⟨PA, pc, QA, qc, A, c, none, 0, by rw [HK.out]; rfl, ?_, .inr ⟨rfl, rfl, rfl⟩, ?_, by rw [HKL.out]; exact hOA.len, hOA.max, Arr.nil, Nat.le_refl _, by omega, ?_⟩
        · exact in_below H.out (by repeat (first | with_reducible exact Below.refl _ _ | with_reducible assumption | with_reducible refine Below.drew ?_ | with_reducible refine below_drewN ?_ _ | with_reducible refine Below.alloc ?_ (by first | omega | (simp; done) | (simp; omega)) _ | with_reducible refine Below.setCell ?_ (by first | omega | (simp; done) | (simp; omega)) _))
        · rw [HKL.out]
          refine Own.arr Pair.enc_len (e := 54) (c := c) (lo := w.heap.size + 1 + 1 + 1 + 1 + 1) ?_
          repeat (first | with_reducible exact hOA | with_reducible refine Own.drew ?_ | with_reducible refine Own.setCell ?_ (by first | (show w.heap.size + 1 + 1 < w.heap.size + 1 + 1 + 1 + 1 + 1; omega) | (show w.heap.size + 1 + 1 + 1 < w.heap.size + 1 + 1 + 1 + 1 + 1; omega)) _)
        · exact (by repeat (first | with_reducible exact Below.refl _ _ | with_reducible assumption | with_reducible refine Below.drew ?_ | with_reducible refine below_drewN ?_ _ | with_reducible refine Below.alloc ?_ (by first | omega | (simp; done) | (simp; omega)) _ | with_reducible refine Below.setCell ?_ (by first | omega | (simp; done) | (simp; omega)) _))
end Go.Proofs.YtamcehfcjcmpmaaGreatDoor
/- The reference's Apply: a group. -/
namespace Go.Proofs.YtamcehfcjcmpmaaGreatDoor
open Go.RowKit

def GivesRY (S : Shelf) (a : Ans) (w : World) (e : Ending) (w' : World) : Prop :=
  ∃ PA pc QA qc RA rc HA hc, e = .returned (.tuple #[.agg #[.slice PA S.pairs.length pc, .slice QA S.queue.length qc], .agg #[.int .i64 a.code, .bool a.found, .string a.value, .slice RA a.pairs.length rc, .slice HA a.hits.length hc, .int .u64 0]]) ∧
    ShIn w' w'.heap.size PA pc QA qc S ∧ Arr Pair.enc 2 w' w'.heap.size RA a.pairs ∧ a.pairs.length ≤ rc ∧ rc ≤ 9223372036854775807 ∧ Arr bit 1 w' w'.heap.size HA a.hits ∧ a.hits.length ≤ hc ∧ hc ≤ 9223372036854775807 ∧ Below w.heap.size w w'
theorem GivesRA.y {PA0 QA0 : Option Addr} {s0 S : Shelf} {a : Ans} {w w' : World} {e : Ending} (h : GivesRA PA0 QA0 s0 S a w e w') : GivesRY S a w e w' := by
  obtain ⟨PA, pc, QA, qc, RA, rc, HA, hc, h1, h2, _, h4, h5, h6, h7, h8, h9, h10⟩ := h
  exact ⟨PA, pc, QA, qc, RA, rc, HA, hc, h1, h2, h4, h5, h6, h7, h8, h9, h10⟩
def GivesRAL (PA0 QA0 : Option Addr) (s0 S : Shelf) (fd : Bool) (w : World) (e : Ending) (w' : World) : Prop :=
  ∃ lo PA pc QA qc RA rc HA hc, lo = w.heap.size ∧ e = .returned (.tuple #[.agg #[.slice PA S.pairs.length pc, .slice QA S.queue.length qc], .agg #[.int .i64 0, .bool fd, .string ByteArray.empty, .slice RA 0 rc, .slice HA 0 hc, .int .u64 0]]) ∧
    ShIn w' w'.heap.size PA pc QA qc S ∧ ((LowL lo PA S.pairs ∧ LowL lo QA S.queue) ∨ (PA = PA0 ∧ QA = QA0 ∧ S = s0)) ∧ Below w.heap.size w w'
theorem refap_elem (x : Call0) (gx : List Call0) (s : Shelf) (PA : Option Addr) (pc : Nat) (QA : Option Addr) (qc : Nat) (w : World) (h : ShIn w w.heap.size PA pc QA qc s) (hp : s.pairs.length ≤ 90000) (hq : s.queue.length ≤ 90000) (hc : CallIn w w.heap.size x gx) (hgood : goodI x gx = 0) (hk : x.kind = 2 ∨ x.kind = 3 ∨ x.kind = 4) :
    Calls Tryz.prog 30 #[.agg #[.slice PA s.pairs.length pc, .slice QA s.queue.length qc], .agg #[.int .i64 x.kind, .string x.key, .string x.val, .string x.to, .slice x.gA x.gn x.gc]] w (GivesRAL PA QA s (doS x s) (doA x s (ans0 0)).found w) := by
  obtain ⟨kind, key, val, to', gA, gn, gc⟩ := x
  simp only at hk
  rcases hk with rfl | rfl | rfl
  · exact (refap_k2 s PA pc QA qc key val to' gA gn gc gx w h hp hq hc hgood).mono fun _ _ ⟨PA, pc, QA, qc, RA, rc, HA, hc, h1, h2, h3, _, _, _, _, _, _, h10⟩ => ⟨_, PA, pc, QA, qc, RA, rc, HA, hc, rfl, h1, h2, h3, h10⟩
  · exact (refap_k3 s PA pc QA qc key val to' gA gn gc gx w h hp hq hc hgood).mono fun _ _ ⟨PA, pc, QA, qc, RA, rc, HA, hc, h1, h2, h3, _, _, _, _, _, _, h10⟩ => ⟨_, PA, pc, QA, qc, RA, rc, HA, hc, rfl, h1, h2, h3, h10⟩
  · exact (refap_k4 s PA pc QA qc key val to' gA gn gc gx w h hp hq hc hgood).mono fun _ _ ⟨PA, pc, QA, qc, RA, rc, HA, hc, h1, h2, h3, _, _, _, _, _, _, h10⟩ => ⟨_, PA, pc, QA, qc, RA, rc, HA, hc, rfl, h1, h2, h3, h10⟩
/-- what is held lies in none of the five blocks from n on -/
def OutL {α : Type} (n : Nat) (A : Option Addr) (l : List α) : Prop := l = [] ∨ ∃ b o, A = some ⟨b, o, none⟩ ∧ (b < n ∨ n + 5 ≤ b)
theorem OutL.off {α : Type} {n p : Nat} {A : Option Addr} {l : List α} (h : OutL n A l) (h1 : n ≤ p) (h2 : p < n + 5) : OffL p A l := h.imp id fun ⟨b, o, hA, hb⟩ => ⟨b, o, hA, by omega⟩
theorem Arr.outL {α : Type} {enc : α → List Value} {k : Nat} {w : World} {B : Nat} {A : Option Addr} {l : List α} (h : Arr enc k w B A l) : OutL B A l := by
  rcases h with h | ⟨b, off, hA, hB, _⟩
  · exact .inl h
  · exact .inr ⟨b, off, hA, .inl hB⟩
theorem Arr.offB {α : Type} {enc : α → List Value} {k : Nat} {w : World} {B p : Nat} {A : Option Addr} {l : List α} (h : Arr enc k w B A l) (hp : B ≤ p) : OffL p A l := by
  rcases h with h | ⟨b, off, hA, hB, _⟩
  · exact .inl h
  · exact .inr ⟨b, off, hA, by omega⟩
theorem LowL.offL {α : Type} {lo p : Nat} {A : Option Addr} {l : List α} (h : LowL lo A l) (hp : p < lo) : OffL p A l := h.imp id fun ⟨b, o, h1, h2⟩ => ⟨b, o, h1, by omega⟩
theorem LowL.outL {α : Type} {lo n : Nat} {A : Option Addr} {l : List α} (h : LowL lo A l) (hp : n + 5 ≤ lo) : OutL n A l := h.imp id fun ⟨b, o, h1, h2⟩ => ⟨b, o, h1, by omega⟩
theorem new_off {wr wC : World} {lo : Nat} {PX P : Option Addr} {px pc : Nat} {QX Q : Option Addr} {qx qc : Nat} {T S : Shelf} (hn : (LowL lo PX T.pairs ∧ LowL lo QX T.queue) ∨ (PX = P ∧ QX = Q ∧ T = S)) (hs : ShIn wr wr.heap.size P pc Q qc S) (hx : ShIn wC wC.heap.size PX px QX qx T) {p : Nat} (h1 : wr.heap.size ≤ p) (h2 : p < lo ∨ wC.heap.size ≤ p) :
    OffL p PX T.pairs ∧ OffL p QX T.queue := by
  rcases h2 with h2 | h2
  · rcases hn with ⟨a, b⟩ | ⟨rfl, rfl, rfl⟩
    · exact ⟨a.offL h2, b.offL h2⟩
    · exact ⟨hs.pairs.offB h1, hs.queue.offB h1⟩
  · exact ⟨hx.pairs.offB h2, hx.queue.offB h2⟩
theorem new_out {lo n : Nat} {PX P : Option Addr} {QX Q : Option Addr} {T S : Shelf} (hn : (LowL lo PX T.pairs ∧ LowL lo QX T.queue) ∨ (PX = P ∧ QX = Q ∧ T = S)) (ho : OutL n P S.pairs ∧ OutL n Q S.queue) (hlo : n + 5 ≤ lo) : OutL n PX T.pairs ∧ OutL n QX T.queue := by
  rcases hn with ⟨a, b⟩ | ⟨rfl, rfl, rfl⟩
  · exact ⟨a.outL hlo, b.outL hlo⟩
  · exact ho
theorem rowOf_lt {α : Type} {enc : α → List Value} {e : TypeId} {k : Nat} {w : World} {lo : Nat} {A : Option Addr} {c : Nat} {l : List α} (h : Own enc e k w lo A c l) {j : Nat} (hj : rowOf A c = some j) : lo ≤ j ∧ j < w.heap.size := by
  unfold rowOf at hj
  rcases h.lt with h0 | ⟨b, off, rfl, hlo, hlt⟩
  · rw [if_pos h0] at hj; cases hj
  · split at hj
    · cases hj
    · simp at hj; omega
theorem new_row {wr : World} {lo : Nat} {PX P : Option Addr} {QX Q : Option Addr} {T S : Shelf} {HA : Option Addr} {hc : Nat} {L : List Bool} (hn : (LowL wr.heap.size PX T.pairs ∧ LowL wr.heap.size QX T.queue) ∨ (PX = P ∧ QX = Q ∧ T = S)) (ho : ∀ r, rowOf HA hc = some r → OffL r P S.pairs ∧ OffL r Q S.queue) (hown : Own bit 4 1 wr lo HA hc L) :
    ∀ r, rowOf HA hc = some r → OffL r PX T.pairs ∧ OffL r QX T.queue := by
  intro r hr
  rcases hn with ⟨a, b⟩ | ⟨rfl, rfl, rfl⟩
  · exact ⟨a.offL (rowOf_lt hown hr).2, b.offL (rowOf_lt hown hr).2⟩
  · exact ho r hr
theorem cell_oth {W : World} {b j n i : Nat} {x : Value} (h : n ≠ b) : (W.setCell ⟨b, j, none⟩ x).cell? ⟨n, i, none⟩ = W.cell? ⟨n, i, none⟩ := by
  simp [go_sem]
theorem ShIn.al' {w : World} {B : Nat} {PA : Option Addr} {pc : Nat} {QA : Option Addr} {qc : Nat} {s : Shelf} (h : ShIn w B PA pc QA qc s) (hB : B ≤ w.heap.size) (o : Obj) : ShIn (w.alloc o) B PA pc QA qc s := h.below ((Below.refl B w).alloc hB o)
theorem Arr.grownOff {α : Type} {enc : α → List Value} {k : Nat} {w w' : World} {B : Nat} {A : Option Addr} {l : List α} {row : Option Nat} (h : Arr enc k w B A l) (hg : w.grownBy w' row) (hB : B ≤ w.heap.size) (ho : ∀ r, row = some r → OffL r A l) : Arr enc k w' B A l := by
  rcases h with h | ⟨b, off, hA, hb, hc⟩
  · exact .inl h
  · by_cases hl : l = []
    · exact .inl hl
    · refine .inr ⟨b, off, hA, hb, fun i hi j u hu => ?_⟩
      rw [← hc i hi j u hu]
      refine grown_cell hg (p := ⟨b, _, none⟩) (by show b < _; omega) fun e => ?_
      rcases ho _ e with h | ⟨b', o', hA', hne⟩
      · exact hl h
      · rw [hA] at hA'
        cases hA'
        exact hne rfl
theorem ShIn.grownOff {w w' : World} {B : Nat} {PA : Option Addr} {pc : Nat} {QA : Option Addr} {qc : Nat} {s : Shelf} {row : Option Nat} (h : ShIn w B PA pc QA qc s) (hg : w.grownBy w' row) (hB : B ≤ w.heap.size) (ho : ∀ r, row = some r → OffL r PA s.pairs ∧ OffL r QA s.queue) : ShIn w' B PA pc QA qc s :=
  ⟨h.pairs.grownOff hg hB fun r hr => (ho r hr).1, h.plen, h.pmax, h.queue.grownOff hg hB fun r hr => (ho r hr).2, h.qlen, h.qmax⟩
/-- a store and an answer under way, in the reference's Apply of a group -/
structure GR (w w1 wr : World) (key val to' : ByteArray) (gA : Option Addr) (gn gc : Nat) (P : Option Addr) (pc : Nat) (Q : Option Addr) (qc : Nat) (S : Shelf) (HA : Option Addr) (hc : Nat) (L : List Bool) : Prop where
  below : Below w.heap.size w wr
  size : w1.heap.size ≤ wr.heap.size
  b0 : wr.heap[w.heap.size]? = some (.cells #[.slice P S.pairs.length pc, .slice Q S.queue.length qc] 25 (0, 0))
  b1 : wr.heap[w.heap.size + 1]? = some (.cells #[.int .i64 7, .string key, .string val, .string to', .slice gA gn gc] 46 (0, 0))
  b2 : wr.heap[w.heap.size + 1 + 1]? = some (.cells #[.slice none 0 0, .slice none 0 0] 25 (0, 0))
  b3 : wr.heap[w.heap.size + 1 + 1 + 1]? = some (.cells #[.int .i64 0, .bool false, .string ByteArray.empty, .slice none 0 0, .slice none 0 0, .int .u64 0] 50 (0, 0))
  b4 : wr.heap[w.heap.size + 1 + 1 + 1 + 1]? = some (.cells #[.int .i64 0, .bool false, .string ByteArray.empty, .slice none 0 0, .slice HA L.length hc, .int .u64 0] 50 (0, 0))
  sh : ShIn wr wr.heap.size P pc Q qc S
  out : OutL w.heap.size P S.pairs ∧ OutL w.heap.size Q S.queue
  own : Own bit 4 1 wr (w.heap.size + 1 + 1 + 1 + 1 + 1) HA hc L
  off : ∀ r, rowOf HA hc = some r → OffL r P S.pairs ∧ OffL r Q S.queue
theorem row_grown {w wd w6 : World} {i : Nat} {o o' : Obj} {HA : Option Addr} {hc : Nat} {L : List Bool} (h : wd.heap[i]? = some o) (hown : Own bit 4 1 wd (w.heap.size + 1 + 1 + 1 + 1 + 1) HA hc L) (hi : i < w.heap.size + 1 + 1 + 1 + 1 + 1) (hg : (wd.alloc o').grownBy w6 (rowOf HA hc)) : w6.heap[i]? = some o :=
  (hg.block i (by have := lt_of_heap h; simp; omega) fun e => by have := (rowOf_lt hown e.symm).1; omega).trans ((Below.heap_alloc _ _ _ (lt_of_heap h)).trans h)
theorem row4_grown {w wd w6 : World} {o o' : Obj} {HA : Option Addr} {hc : Nat} {L : List Bool} (h : wd.heap[w.heap.size + 1 + 1 + 1 + 1]? = some o) (hown : Own bit 4 1 wd (w.heap.size + 1 + 1 + 1 + 1 + 1) HA hc L) (hg : (wd.alloc o').grownBy w6 (rowOf HA hc)) : w6.heap[w.heap.size + 1 + 1 + 1 + 1]? = some o :=
  row_grown h hown (by omega) hg
theorem GR.next {w w1 wd w6 : World} {key val to' : ByteArray} {gA : Option Addr} {gn gc : Nat} {P : Option Addr} {pc : Nat} {Q : Option Addr} {qc : Nat} {S : Shelf} {HA : Option Addr} {hc : Nat} {L : List Bool} {o : Obj} {A' : Option Addr} {c' m : Nat} {fd : Bool}
    (hb : Below w.heap.size w wd) (hz : w1.heap.size ≤ wd.heap.size)
    (b0 : wd.heap[w.heap.size]? = some (.cells #[.slice P S.pairs.length pc, .slice Q S.queue.length qc] 25 (0, 0)))
    (b1 : wd.heap[w.heap.size + 1]? = some (.cells #[.int .i64 7, .string key, .string val, .string to', .slice gA gn gc] 46 (0, 0)))
    (b2 : wd.heap[w.heap.size + 1 + 1]? = some (.cells #[.slice none 0 0, .slice none 0 0] 25 (0, 0)))
    (b3 : wd.heap[w.heap.size + 1 + 1 + 1]? = some (.cells #[.int .i64 0, .bool false, .string ByteArray.empty, .slice none 0 0, .slice none 0 0, .int .u64 0] 50 (0, 0)))
    (b4 : wd.heap[w.heap.size + 1 + 1 + 1 + 1]? = some (.cells #[.int .i64 0, .bool false, .string ByteArray.empty, .slice none 0 0, .slice HA L.length hc, .int .u64 0] 50 (0, 0)))
    (hs : ShIn wd wd.heap.size P pc Q qc S) (ho : OutL w.heap.size P S.pairs ∧ OutL w.heap.size Q S.queue) (hown : Own bit 4 1 wd (w.heap.size + 1 + 1 + 1 + 1 + 1) HA hc L) (hoff : ∀ r, rowOf HA hc = some r → OffL r P S.pairs ∧ OffL r Q S.queue)
    (hg : (wd.alloc o).grownBy w6 (rowOf HA hc)) (hown' : Own bit 4 1 w6 (w.heap.size + 1 + 1 + 1 + 1 + 1) A' c' (L ++ [fd])) (hloc : A' = HA ∧ c' = hc ∨ ∃ g, A' = some ⟨g, 0, none⟩ ∧ (wd.alloc o).heap.size ≤ g) (hm : m = (L ++ [fd]).length) :
    GR w w1 (w6.setCell ⟨w.heap.size + 1 + 1 + 1 + 1, 4, none⟩ (.slice A' m c')) key val to' gA gn gc P pc Q qc S A' c' (L ++ [fd]) := by
  subst hm
  have hzw := hb.size
  have hz6 := hg.size
  simp only [World.size_alloc] at hz6
  have r4 := row4_grown b4 hown hg
  refine ⟨?_, ?_, ?_, ?_, ?_, ?_, ?_, ?_, ho, hown'.setCell (by show w.heap.size + 1 + 1 + 1 + 1 < w.heap.size + 1 + 1 + 1 + 1 + 1; omega) _, ?_⟩
  · exact ((hb.alloc hzw o).grown hg (by simp; omega) fun j hj => by have := (rowOf_lt hown (by first | exact hj | exact hj.symm)).1; omega).setCell (by show w.heap.size ≤ w.heap.size + 1 + 1 + 1 + 1; omega) _
  · simp [World.setCell]; omega
  · exact (heap_setO (by omega)).trans (row_grown b0 hown (by omega) hg)
  · exact (heap_setO (by omega)).trans (row_grown b1 hown (by omega) hg)
  · exact (heap_setO (by omega)).trans (row_grown b2 hown (by omega) hg)
  · exact (heap_setO (by omega)).trans (row_grown b3 hown (by omega) hg)
  · rw [heap_setCell_same w6 _ 4 _ _ _ r4]
    rfl
  · refine ShIn.more (B := wd.heap.size) ?_ (by simp [World.setCell]; omega)
    exact ((ShIn.al' hs (Nat.le_refl _) o).grownOff hg (by simp) hoff).offCell (ho.1.off (by omega) (by omega)) (ho.2.off (by omega) (by omega)) _ _
  · intro r hr
    rcases hloc with ⟨rfl, rfl⟩ | ⟨g, rfl, hge⟩
    · exact hoff r hr
    · simp only [World.size_alloc] at hge
      unfold rowOf at hr
      split at hr
      · cases hr
      · simp at hr
        exact ⟨hs.pairs.offB (by omega), hs.queue.offB (by omega)⟩
/-- 't, b := Apply(s, x)', each in a variable -/
def RApplied (wr wx : World) (P0 Q0 : Option Addr) (s0 S : Shelf) (fd : Bool) (v10 v11 : Value) : Prop :=
  ∃ px pa PX px' QX qx', v10 = .pointer (some ⟨px, 0, none⟩) ∧ v11 = .pointer (some ⟨pa, 0, none⟩) ∧ Below wr.heap.size wr wx ∧ wr.heap.size ≤ px ∧ (px < wx.heap.size ∧ wx.cell? ⟨px, 0, none⟩ = some (.slice PX S.pairs.length px') ∧ wx.cell? ⟨px, 1, none⟩ = some (.slice QX S.queue.length qx')) ∧
    ((wr.heap.size ≤ pa ∧ pa < wx.heap.size) ∧ wx.cell? ⟨pa, 1, none⟩ = some (.bool fd)) ∧ ShIn wx wx.heap.size PX px' QX qx' S ∧ ((LowL wr.heap.size PX S.pairs ∧ LowL wr.heap.size QX S.queue) ∨ (PX = P0 ∧ QX = Q0 ∧ S = s0))

set_option maxHeartbeats 4000000 in
set_option maxRecDepth 100000 in
theorem refap_grp0 (s : Shelf) (PA : Option Addr) (pc : Nat) (QA : Option Addr) (qc : Nat) (key val to' : ByteArray) (gA : Option Addr) (gc : Nat) (g : List Call0) (w : World) (h : ShIn w w.heap.size PA pc QA qc s) (hp : s.pairs.length ≤ 80000) (hq : s.queue.length ≤ 80000) (hc : CallIn w w.heap.size ⟨7, key, val, to', gA, g.length, gc⟩ g) (hel : ∀ x ∈ g, ∃ g', CallIn w w.heap.size x g') (hgood : goodI ⟨7, key, val, to', gA, g.length, gc⟩ g = 0) :
    Calls Tryz.prog 30 #[.agg #[.slice PA s.pairs.length pc, .slice QA s.queue.length qc], .agg #[.int .i64 7, .string key, .string val, .string to', .slice gA g.length gc]] w (GivesRY (doAll g s) { ans0 0 with hits := hitsOf g s } w) := by
  have H := hid h
  have HC := hid hc
  have HG := hid hgood
  have HEL := hid hel
  have HP := hid hp
  have HQ := hid hq
  have hplen := h.plen
  have hpmax := h.pmax
  have hqlen := h.qlen
  have hqmax := h.qmax
  have hgcap := hc.cap
  have hgmax := hc.max
  have hg3 : g.length ≤ 3 := grp_len hgood rfl
  clear h hc hgood hp hq hel
  go_enter Tryz.func30, Tryz.ntmps30
  go_wp2_with fail
  refine (refgood_any ⟨7, key, val, to', gA, g.length, gc⟩ g _ ((HC.out.below (by repeat (first | exact Below.refl _ _ | assumption | refine Below.drew ?_ | refine below_drewN ?_ _ | refine Below.alloc ?_ (by first | omega | (simp; done) | (simp; omega)) _ | refine Below.setCell ?_ (by first | omega | (simp; done) | (simp; omega)) _))).more (by first | omega | (simp; done) | (simp; omega)))).mono ?_
  rintro e w1 ⟨rfl, hb1⟩
  rw [HG.out]
  have z1 := hb1.size
  simp only [World.size_alloc] at z1
  have bw1 : Below w.heap.size w w1 := Below.trans (by repeat (first | exact Below.refl _ _ | assumption | refine Below.drew ?_ | refine below_drewN ?_ _ | refine Below.alloc ?_ (by first | omega | (simp; done) | (simp; omega)) _ | refine Below.setCell ?_ (by first | omega | (simp; done) | (simp; omega)) _)) (hb1.mono (show w.heap.size ≤ _ from (by first | omega | (simp; done) | (simp; omega))))
  have B0 : w1.heap[w.heap.size]? = some (.cells #[.slice PA s.pairs.length pc, .slice QA s.queue.length qc] 25 (0, 0)) := (hb1.block _ (by first | (simp; done) | (simp; omega))).trans (by repeat (first | with_reducible exact heap_newR (by first | omega | (simp; done) | (simp; omega)) | exact heap_newR (by first | omega | (simp; done) | (simp; omega)) | (with_reducible refine (Below.heap_alloc _ _ _ ?_).trans ?_; exact (by first | omega | (simp; done) | (simp; omega)))))
  have B1 : w1.heap[w.heap.size + 1]? = some (.cells #[.int .i64 7, .string key, .string val, .string to', .slice gA g.length gc] 46 (0, 0)) := (hb1.block _ (by first | (simp; done) | (simp; omega))).trans (by repeat (first | with_reducible exact heap_newR (by first | omega | (simp; done) | (simp; omega)) | exact heap_newR (by first | omega | (simp; done) | (simp; omega)) | (with_reducible refine (Below.heap_alloc _ _ _ ?_).trans ?_; exact (by first | omega | (simp; done) | (simp; omega)))))
  have B2 : w1.heap[w.heap.size + 1 + 1]? = some (.cells #[.slice none 0 0, .slice none 0 0] 25 (0, 0)) := (hb1.block _ (by first | (simp; done) | (simp; omega))).trans (by repeat (first | with_reducible exact heap_newR (by first | omega | (simp; done) | (simp; omega)) | exact heap_newR (by first | omega | (simp; done) | (simp; omega)) | (with_reducible refine (Below.heap_alloc _ _ _ ?_).trans ?_; exact (by first | omega | (simp; done) | (simp; omega)))))
  have B3 : w1.heap[w.heap.size + 1 + 1 + 1]? = some (.cells #[.int .i64 0, .bool false, .string ByteArray.empty, .slice none 0 0, .slice none 0 0, .int .u64 0] 50 (0, 0)) := (hb1.block _ (by first | (simp; done) | (simp; omega))).trans (by repeat (first | with_reducible exact heap_newR (by first | omega | (simp; done) | (simp; omega)) | exact heap_newR (by first | omega | (simp; done) | (simp; omega)) | (with_reducible refine (Below.heap_alloc _ _ _ ?_).trans ?_; exact (by first | omega | (simp; done) | (simp; omega)))))
  have B4 : w1.heap[w.heap.size + 1 + 1 + 1 + 1]? = some (.cells #[.int .i64 0, .bool false, .string ByteArray.empty, .slice none 0 0, .slice none 0 0, .int .u64 0] 50 (0, 0)) := (hb1.block _ (by first | (simp; done) | (simp; omega))).trans (by repeat (first | with_reducible exact heap_newR (by first | omega | (simp; done) | (simp; omega)) | exact heap_newR (by first | omega | (simp; done) | (simp; omega)) | (with_reducible refine (Below.heap_alloc _ _ _ ?_).trans ?_; exact (by first | omega | (simp; done) | (simp; omega)))))
  clear hb1
  have s0 := cell_of_row w1 _ 0 _ _ _ B0
  have s1 := cell_of_row w1 _ 1 _ _ _ B0
  have fs0 := frozen_of_row w1 _ 0 _ _ B0
  have fs1 := frozen_of_row w1 _ 1 _ _ B0
  have k0 := cell_of_row w1 _ 0 _ _ _ B1
  have k1 := cell_of_row w1 _ 1 _ _ _ B1
  have k2 := cell_of_row w1 _ 2 _ _ _ B1
  have k3 := cell_of_row w1 _ 3 _ _ _ B1
  have k4 := cell_of_row w1 _ 4 _ _ _ B1
  have r0 := cell_of_row w1 _ 0 _ _ _ B2
  have r1 := cell_of_row w1 _ 1 _ _ _ B2
  have fr0 := frozen_of_row w1 _ 0 _ _ B2
  have fr1 := frozen_of_row w1 _ 1 _ _ B2
  have q0 := cell_of_row w1 _ 0 _ _ _ B3
  have q1 := cell_of_row w1 _ 1 _ _ _ B3
  have q2 := cell_of_row w1 _ 2 _ _ _ B3
  have q3 := cell_of_row w1 _ 3 _ _ _ B3
  have q4 := cell_of_row w1 _ 4 _ _ _ B3
  have q5 := cell_of_row w1 _ 5 _ _ _ B3
  have fq0 := frozen_of_row w1 _ 0 _ _ B3
  have fq1 := frozen_of_row w1 _ 1 _ _ B3
  have fq2 := frozen_of_row w1 _ 2 _ _ B3
  have fq3 := frozen_of_row w1 _ 3 _ _ B3
  have fq4 := frozen_of_row w1 _ 4 _ _ B3
  have fq5 := frozen_of_row w1 _ 5 _ _ B3
  have a0 := cell_of_row w1 _ 0 _ _ _ B4
  have a1 := cell_of_row w1 _ 1 _ _ _ B4
  have a2 := cell_of_row w1 _ 2 _ _ _ B4
  have a3 := cell_of_row w1 _ 3 _ _ _ B4
  have a4 := cell_of_row w1 _ 4 _ _ _ B4
  have a5 := cell_of_row w1 _ 5 _ _ _ B4
  have fa0 := frozen_of_row w1 _ 0 _ _ B4
  have fa1 := frozen_of_row w1 _ 1 _ _ B4
  have fa2 := frozen_of_row w1 _ 2 _ _ B4
  have fa3 := frozen_of_row w1 _ 3 _ _ B4
  have fa4 := frozen_of_row w1 _ 4 _ _ B4
  have fa5 := frozen_of_row w1 _ 5 _ _ B4
  simp only [List.getElem?_toArray, List.getElem?_cons_zero, List.getElem?_cons_succ] at s0 s1 k0 k1 k2 k3 k4 r0 r1 q0 q1 q2 q3 q4 q5 a0 a1 a2 a3 a4 a5
  have l0 : w.heap.size < w1.heap.size := by omega
  have l1 : w.heap.size + 1 < w1.heap.size := by omega
  have l2 : w.heap.size + 1 + 1 < w1.heap.size := by omega
  have l3 : w.heap.size + 1 + 1 + 1 < w1.heap.size := by omega
  have l4 : w.heap.size + 1 + 1 + 1 + 1 < w1.heap.size := by omega
  have HST := hid (show GR w w1 w1 key val to' gA g.length gc PA pc QA qc s none 0 [] from ⟨bw1, Nat.le_refl _, B0, B1, B2, B3, B4, in_below H.out bw1, ⟨H.out.pairs.outL, H.out.queue.outL⟩, Own.none_, fun p hp => by simp [rowOf] at hp⟩)
  have HBW1 := hid bw1
  go_wp2_with fail
  clear B0 B1 B2 B3 B4 bw1
  clear s0 s1 fs0 fs1 k0 k1 k2 k3 k4 r0 r1 fr0 fr1 q0 q1 q2 q3 q4 q5 fq0 fq1 fq2 fq3 fq4 fq5 a0 a1 a2 a3 a4 a5 fa0 fa1 fa2 fa3 fa4 fa5 l0 l1 l2 l3 l4
  go_loopw [9] (fun vi wr => ∃ (k : Nat) (P : Option Addr) (pc' : Nat) (Q : Option Addr) (qc' : Nat) (HA : Option Addr) (hc : Nat), k ≤ g.length ∧ vi = .int .i64 k ∧ GR w w1 wr key val to' gA g.length gc P pc' Q qc' (doAll (g.take k) s) HA hc (hitsOf (g.take k) s)) (fun vi _ => g.length - (intOf vi).toNat)
  case atStart => exact ⟨0, PA, pc, QA, qc, none, 0, Nat.zero_le _, rfl, HST.out⟩
  case round =>
    obtain ⟨k, P, pc', Q, qc', HA, hc, hkl, rfl, hgr⟩ := hrel
    obtain ⟨S, hS⟩ : ∃ S, S = doAll (g.take k) s := ⟨_, rfl⟩
    obtain ⟨L, hL⟩ : ∃ L, L = hitsOf (g.take k) s := ⟨_, rfl⟩
    rw [← hS, ← hL] at hgr
    have HSk := hid hS
    have HLk := hid hL
    have hSL := doAll_len (g.take k) s
    rw [← hS, List.length_take] at hSL
    have HSL := hid (show S.pairs.length ≤ 90000 ∧ S.queue.length ≤ 90000 by have := HP.out; have := HQ.out; omega)
    have HLL := hid (show L.length ≤ 3 by rw [hL, hitsOf_len, List.length_take]; omega)
    have HGR := hid hgr
    have zr := hgr.size
    have bwr := hgr.below
    clear hS hL hSL
    have B0 : wr.heap[w.heap.size]? = some (.cells #[.slice P S.pairs.length pc', .slice Q S.queue.length qc'] 25 (0, 0)) := hgr.b0
    have B1 : wr.heap[w.heap.size + 1]? = some (.cells #[.int .i64 7, .string key, .string val, .string to', .slice gA g.length gc] 46 (0, 0)) := hgr.b1
    have B2 : wr.heap[w.heap.size + 1 + 1]? = some (.cells #[.slice none 0 0, .slice none 0 0] 25 (0, 0)) := hgr.b2
    have B3 : wr.heap[w.heap.size + 1 + 1 + 1]? = some (.cells #[.int .i64 0, .bool false, .string ByteArray.empty, .slice none 0 0, .slice none 0 0, .int .u64 0] 50 (0, 0)) := hgr.b3
    have B4 : wr.heap[w.heap.size + 1 + 1 + 1 + 1]? = some (.cells #[.int .i64 0, .bool false, .string ByteArray.empty, .slice none 0 0, .slice HA L.length hc, .int .u64 0] 50 (0, 0)) := hgr.b4
    clear hgr
    have s0 := cell_of_row wr _ 0 _ _ _ B0
    have s1 := cell_of_row wr _ 1 _ _ _ B0
    have fs0 := frozen_of_row wr _ 0 _ _ B0
    have fs1 := frozen_of_row wr _ 1 _ _ B0
    have k0 := cell_of_row wr _ 0 _ _ _ B1
    have k1 := cell_of_row wr _ 1 _ _ _ B1
    have k2 := cell_of_row wr _ 2 _ _ _ B1
    have k3 := cell_of_row wr _ 3 _ _ _ B1
    have k4 := cell_of_row wr _ 4 _ _ _ B1
    have r0 := cell_of_row wr _ 0 _ _ _ B2
    have r1 := cell_of_row wr _ 1 _ _ _ B2
    have fr0 := frozen_of_row wr _ 0 _ _ B2
    have fr1 := frozen_of_row wr _ 1 _ _ B2
    have q0 := cell_of_row wr _ 0 _ _ _ B3
    have q1 := cell_of_row wr _ 1 _ _ _ B3
    have q2 := cell_of_row wr _ 2 _ _ _ B3
    have q3 := cell_of_row wr _ 3 _ _ _ B3
    have q4 := cell_of_row wr _ 4 _ _ _ B3
    have q5 := cell_of_row wr _ 5 _ _ _ B3
    have fq0 := frozen_of_row wr _ 0 _ _ B3
    have fq1 := frozen_of_row wr _ 1 _ _ B3
    have fq2 := frozen_of_row wr _ 2 _ _ B3
    have fq3 := frozen_of_row wr _ 3 _ _ B3
    have fq4 := frozen_of_row wr _ 4 _ _ B3
    have fq5 := frozen_of_row wr _ 5 _ _ B3
    have a0 := cell_of_row wr _ 0 _ _ _ B4
    have a1 := cell_of_row wr _ 1 _ _ _ B4
    have a2 := cell_of_row wr _ 2 _ _ _ B4
    have a3 := cell_of_row wr _ 3 _ _ _ B4
    have a4 := cell_of_row wr _ 4 _ _ _ B4
    have a5 := cell_of_row wr _ 5 _ _ _ B4
    have fa0 := frozen_of_row wr _ 0 _ _ B4
    have fa1 := frozen_of_row wr _ 1 _ _ B4
    have fa2 := frozen_of_row wr _ 2 _ _ B4
    have fa3 := frozen_of_row wr _ 3 _ _ B4
    have fa4 := frozen_of_row wr _ 4 _ _ B4
    have fa5 := frozen_of_row wr _ 5 _ _ B4
    simp only [List.getElem?_toArray, List.getElem?_cons_zero, List.getElem?_cons_succ] at s0 s1 k0 k1 k2 k3 k4 r0 r1 q0 q1 q2 q3 q4 q5 a0 a1 a2 a3 a4 a5
    have l0 : w.heap.size < wr.heap.size := by omega
    have l1 : w.heap.size + 1 < wr.heap.size := by omega
    have l2 : w.heap.size + 1 + 1 < wr.heap.size := by omega
    have l3 : w.heap.size + 1 + 1 + 1 < wr.heap.size := by omega
    have l4 : w.heap.size + 1 + 1 + 1 + 1 < wr.heap.size := by omega
    have HRW := hid (And.intro B0 (And.intro B1 (And.intro B2 (And.intro B3 B4))))
    clear B0 B1 B2 B3 B4
    by_cases hlt : k < g.length
    · have hmem : g[k] ∈ g := List.getElem_mem hlt
      obtain ⟨G, hG⟩ := HEL.out _ hmem
      have HK := hid hG
      have hk3 := grouped_cases (grp_kind HG.out rfl _ hmem)
      have HK3 := hid hk3
      have HGX := hid (grp_good HG.out rfl _ hmem G)
      obtain ⟨b, off, hA, hB, c0, c1, c2, c3, c4⟩ := (HC.out.arr.below bwr).call0 hlt
      have hA' : gA = some ⟨b, off, none⟩ := hA
      subst hA'
      have hlk : (k : Int) < (g.length : Int) := by omega
      have hlk0 : (0 : Int) ≤ (k : Int) := by omega
      have hbr : b < wr.heap.size := Nat.lt_of_lt_of_le hB bwr.size
      have HCX := hid (fun X (hX : Below wr.heap.size wr X) => show CallIn X X.heap.size g[k] G from (HK.out.below (bwr.trans (hX.mono bwr.size))).more (bwr.trans (hX.mono bwr.size)).size)
      have HSX := hid (fun X (hX : Below wr.heap.size wr X) => in_below HGR.out.sh hX)
      have HBWR := hid bwr
      clear hG hmem hA hk3 bwr
      obtain ⟨T, hT⟩ : ∃ T, T = doS g[k] S := ⟨_, rfl⟩
      obtain ⟨fd, hfd⟩ : ∃ fd, fd = (doA g[k] S (ans0 0)).found := ⟨_, rfl⟩
      have HT := hid hT
      have HFD := hid hfd
      clear hT hfd
      have hall : wr.cell? ⟨w.heap.size, 0, none⟩ = some (.slice P S.pairs.length pc') ∧ wr.cell? ⟨w.heap.size, 1, none⟩ = some (.slice Q S.queue.length qc') ∧ wr.cell? ⟨b, off + k * 5, none⟩ = some (.int .i64 g[k].kind) ∧ wr.cell? ⟨b, off + k * 5 + 1, none⟩ = some (.string g[k].key) ∧ wr.cell? ⟨b, off + k * 5 + 2, none⟩ = some (.string g[k].val) ∧ wr.cell? ⟨b, off + k * 5 + 3, none⟩ = some (.string g[k].to) ∧ wr.cell? ⟨b, off + k * 5 + 4, none⟩ = some (.slice g[k].gA g[k].gn g[k].gc) ∧ wr.cell? ⟨w.heap.size + 1, 4, none⟩ = some (.slice (some ⟨b, off, none⟩) g.length gc) := ⟨s0, s1, c0, c1, c2, c3, c4, k4⟩
      have HALL := hid hall
      clear hall
      go_upto_region 32 with fail
      go_cut [10, 11] (fun v10 v11 wx => RApplied wr wx P Q S T fd v10 v11)
      case first =>
        go_region_held3 (fun w' => w'.cell? ⟨w.heap.size, 0, none⟩ = some (.slice P S.pairs.length pc') ∧ w'.cell? ⟨w.heap.size, 1, none⟩ = some (.slice Q S.queue.length qc') ∧ w'.cell? ⟨b, off + k * 5, none⟩ = some (.int .i64 g[k].kind) ∧ w'.cell? ⟨b, off + k * 5 + 1, none⟩ = some (.string g[k].key) ∧ w'.cell? ⟨b, off + k * 5 + 2, none⟩ = some (.string g[k].val) ∧ w'.cell? ⟨b, off + k * 5 + 3, none⟩ = some (.string g[k].to) ∧ w'.cell? ⟨b, off + k * 5 + 4, none⟩ = some (.slice g[k].gA g[k].gn g[k].gc) ∧ w'.cell? ⟨w.heap.size + 1, 4, none⟩ = some (.slice (some ⟨b, off, none⟩) g.length gc)) (first | exact keep8 (W := wr) (by repeat (first | with_reducible exact Below.refl _ _ | with_reducible assumption | with_reducible refine Below.drew ?_ | with_reducible refine below_drewN ?_ _ | with_reducible refine Below.alloc ?_ (by first | omega | (simp; done) | (simp; omega)) _ | with_reducible refine Below.setCell ?_ (by first | omega | (simp; done) | (simp; omega)) _)) l0 hbr l1 HALL.out | go_keep) (first | (go_at_call 30; refine (refap_elem g[k] G S P pc' Q qc' _ (HSX.out _ ?_) HSL.out.1 HSL.out.2 (HCX.out _ ?_) HGX.out HK3.out).mono ?_; (exact (by repeat (first | with_reducible exact Below.refl _ _ | with_reducible assumption | with_reducible refine Below.drew ?_ | with_reducible refine below_drewN ?_ _ | with_reducible refine Below.alloc ?_ (by first | omega | (simp; done) | (simp; omega)) _ | with_reducible refine Below.setCell ?_ (by first | omega | (simp; done) | (simp; omega)) _))); (exact (by repeat (first | with_reducible exact Below.refl _ _ | with_reducible assumption | with_reducible refine Below.drew ?_ | with_reducible refine below_drewN ?_ _ | with_reducible refine Below.alloc ?_ (by first | omega | (simp; done) | (simp; omega)) _ | with_reducible refine Below.setCell ?_ (by first | omega | (simp; done) | (simp; omega)) _))); rintro e wC ⟨loC, PX, px, QX, qx, RX, rx, HX, hx, hlo, heq, hinX, hnew, hbC⟩; rw [← HT.out] at heq hinX hnew; rw [← HFD.out] at heq; subst heq; (try simp only [World.size_alloc, World.size_drew] at hlo); have HLO := hid hlo; clear hlo; have sC := hbC.size; obtain ⟨hcC, hfC⟩ := bcell hbC; (try simp only [World.size_alloc, World.size_drew] at sC); have sC2 : wr.heap.size ≤ wC.heap.size := (by omega); have stC : Below wr.heap.size wr wC := (by refine Below.trans ?_ (hbC.mono ?_); exact (by repeat (first | with_reducible exact Below.refl _ _ | with_reducible assumption | with_reducible refine Below.drew ?_ | with_reducible refine below_drewN ?_ _ | with_reducible refine Below.alloc ?_ (by first | omega | (simp; done) | (simp; omega)) _ | with_reducible refine Below.setCell ?_ (by first | omega | (simp; done) | (simp; omega)) _)); (first | exact Nat.le_refl _ | (simp; done) | (simp; omega))); (try have s1 : wr.heap.size < wC.heap.size := by omega); (try have s2 : wr.heap.size + 1 < wC.heap.size := by omega)))
        all_goals
          go_wp2_with fail
          go_meet
          have hlo := HLO.out
          have hoff : ∀ p, wr.heap.size ≤ p → (p < loC ∨ wC.heap.size ≤ p) → OffL p PX T.pairs ∧ OffL p QX T.queue := fun p h1 h2 => new_off hnew HGR.out.sh hinX h1 h2
          refine ⟨_, _, PX, px, QX, qx, rfl, rfl, (by repeat (first | with_reducible exact Below.refl _ _ | with_reducible assumption | with_reducible refine Below.drew ?_ | with_reducible refine below_drewN ?_ _ | with_reducible refine Below.alloc ?_ (by first | omega | (simp; done) | (simp; omega)) _ | with_reducible refine Below.setCell ?_ (by first | omega | (simp; done) | (simp; omega)) _)), by omega, ⟨?_, ?_, ?_⟩, ⟨?_, ?_⟩, ?_, ?_⟩
          case refine_6 => (refine ShIn.more (B := wC.heap.size) ?_ (by first | (simp; done) | (simp; omega)); repeat (first | with_reducible exact hinX | with_reducible refine ShIn.dr' ?_ | with_reducible refine ShIn.offCell ?_ (hoff _ (by omega) (by omega)).1 (hoff _ (by omega) (by omega)).2 _ _ | with_reducible refine ShIn.al' ?_ (by first | omega | (simp; done) | (simp only [World.size_alloc]; omega) | (simp; omega)) _))
          case refine_7 => exact hnew.imp (fun h => ⟨h.1.mono (by omega), h.2.mono (by omega)⟩) id
          all_goals first | omega | (simp; done) | (simp; omega) | (have z5 := fun o => hcC wr.heap.size o (by simp only [World.size_drew, World.size_alloc]; omega); have z6 := fun o => hcC (wr.heap.size + 1) o (by simp only [World.size_drew, World.size_alloc]; omega); simp [go_sem, z5, z6]; done) | (have z5 := fun o => hcC wr.heap.size o (by simp only [World.size_drew, World.size_alloc]; omega); simp [go_sem, z5, s1]; done)
      case rest =>
        obtain ⟨p10, p11, PX, px, QX, qx, rfl, rfl, st3, hp10, ⟨y10l, y100, y101⟩, ⟨y11l, y111⟩, hinX, hnew⟩ := hcut
        have HIX := hid hinX
        have HNW := hid hnew
        have HST3 := hid st3
        have zc := st3.size
        have bwc : Below w.heap.size w wc := HBWR.out.trans (st3.mono HBWR.out.size)
        obtain ⟨B0, B1, B2, B3, B4⟩ := HRW.out
        clear s0 s1 fs0 fs1 k0 k1 k2 k3 k4 r0 r1 fr0 fr1 q0 q1 q2 q3 q4 q5 fq0 fq1 fq2 fq3 fq4 fq5 a0 a1 a2 a3 a4 a5 fa0 fa1 fa2 fa3 fa4 fa5 l0 l1 l2 l3 l4 c0 c1 c2 c3 c4 hinX hnew
        replace B0 : wc.heap[w.heap.size]? = some (.cells #[.slice P S.pairs.length pc', .slice Q S.queue.length qc'] 25 (0, 0)) := (st3.block _ (by omega)).trans B0
        replace B1 : wc.heap[w.heap.size + 1]? = some (.cells #[.int .i64 7, .string key, .string val, .string to', .slice (some ⟨b, off, none⟩) g.length gc] 46 (0, 0)) := (st3.block _ (by omega)).trans B1
        replace B2 : wc.heap[w.heap.size + 1 + 1]? = some (.cells #[.slice none 0 0, .slice none 0 0] 25 (0, 0)) := (st3.block _ (by omega)).trans B2
        replace B3 : wc.heap[w.heap.size + 1 + 1 + 1]? = some (.cells #[.int .i64 0, .bool false, .string ByteArray.empty, .slice none 0 0, .slice none 0 0, .int .u64 0] 50 (0, 0)) := (st3.block _ (by omega)).trans B3
        replace B4 : wc.heap[w.heap.size + 1 + 1 + 1 + 1]? = some (.cells #[.int .i64 0, .bool false, .string ByteArray.empty, .slice none 0 0, .slice HA L.length hc, .int .u64 0] 50 (0, 0)) := (st3.block _ (by omega)).trans B4
        have s0 := cell_of_row wc _ 0 _ _ _ B0
        have s1 := cell_of_row wc _ 1 _ _ _ B0
        have fs0 := frozen_of_row wc _ 0 _ _ B0
        have fs1 := frozen_of_row wc _ 1 _ _ B0
        have k0 := cell_of_row wc _ 0 _ _ _ B1
        have k1 := cell_of_row wc _ 1 _ _ _ B1
        have k2 := cell_of_row wc _ 2 _ _ _ B1
        have k3 := cell_of_row wc _ 3 _ _ _ B1
        have k4 := cell_of_row wc _ 4 _ _ _ B1
        have r0 := cell_of_row wc _ 0 _ _ _ B2
        have r1 := cell_of_row wc _ 1 _ _ _ B2
        have fr0 := frozen_of_row wc _ 0 _ _ B2
        have fr1 := frozen_of_row wc _ 1 _ _ B2
        have q0 := cell_of_row wc _ 0 _ _ _ B3
        have q1 := cell_of_row wc _ 1 _ _ _ B3
        have q2 := cell_of_row wc _ 2 _ _ _ B3
        have q3 := cell_of_row wc _ 3 _ _ _ B3
        have q4 := cell_of_row wc _ 4 _ _ _ B3
        have q5 := cell_of_row wc _ 5 _ _ _ B3
        have fq0 := frozen_of_row wc _ 0 _ _ B3
        have fq1 := frozen_of_row wc _ 1 _ _ B3
        have fq2 := frozen_of_row wc _ 2 _ _ B3
        have fq3 := frozen_of_row wc _ 3 _ _ B3
        have fq4 := frozen_of_row wc _ 4 _ _ B3
        have fq5 := frozen_of_row wc _ 5 _ _ B3
        have a0 := cell_of_row wc _ 0 _ _ _ B4
        have a1 := cell_of_row wc _ 1 _ _ _ B4
        have a2 := cell_of_row wc _ 2 _ _ _ B4
        have a3 := cell_of_row wc _ 3 _ _ _ B4
        have a4 := cell_of_row wc _ 4 _ _ _ B4
        have a5 := cell_of_row wc _ 5 _ _ _ B4
        have fa0 := frozen_of_row wc _ 0 _ _ B4
        have fa1 := frozen_of_row wc _ 1 _ _ B4
        have fa2 := frozen_of_row wc _ 2 _ _ B4
        have fa3 := frozen_of_row wc _ 3 _ _ B4
        have fa4 := frozen_of_row wc _ 4 _ _ B4
        have fa5 := frozen_of_row wc _ 5 _ _ B4
        simp only [List.getElem?_toArray, List.getElem?_cons_zero, List.getElem?_cons_succ] at s0 s1 k0 k1 k2 k3 k4 r0 r1 q0 q1 q2 q3 q4 q5 a0 a1 a2 a3 a4 a5
        have l0 : w.heap.size < wc.heap.size := by omega
        have l1 : w.heap.size + 1 < wc.heap.size := by omega
        have l2 : w.heap.size + 1 + 1 < wc.heap.size := by omega
        have l3 : w.heap.size + 1 + 1 + 1 < wc.heap.size := by omega
        have l4 : w.heap.size + 1 + 1 + 1 + 1 < wc.heap.size := by omega
        go_upto_region 34 with fail
        obtain ⟨wd, hwd⟩ : ∃ wd, wd = (wc.setCell ⟨w.heap.size, 0, none⟩ (.slice PX T.pairs.length px)).setCell ⟨w.heap.size, 1, none⟩ (.slice QX T.queue.length qx) := ⟨_, rfl⟩
        rw [← hwd]
        have zwd : wd.heap.size = wc.heap.size := by rw [hwd]; simp [World.setCell]
        have bwd : Below w.heap.size w wd := by rw [hwd]; exact ((bwc.setCell (by show w.heap.size ≤ w.heap.size; omega) _).setCell (by show w.heap.size ≤ w.heap.size; omega) _)
        replace B0 : wd.heap[w.heap.size]? = some (.cells #[.slice PX T.pairs.length px, .slice QX T.queue.length qx] 25 (0, 0)) := by
          rw [hwd]
          have e0 := B0
          have e1 := heap_setCell_same _ (w.heap.size) 0 _ _ (.slice PX T.pairs.length px) e0
          have e2 := heap_setCell_same _ (w.heap.size) 1 _ _ (.slice QX T.queue.length qx) e1
          exact e2
        replace B1 : wd.heap[w.heap.size + 1]? = some (.cells #[.int .i64 7, .string key, .string val, .string to', .slice (some ⟨b, off, none⟩) g.length gc] 46 (0, 0)) := by
          rw [hwd]
          refine (heap_setO (by omega)).trans ?_
          refine (heap_setO (by omega)).trans ?_
          exact B1
        replace B2 : wd.heap[w.heap.size + 1 + 1]? = some (.cells #[.slice none 0 0, .slice none 0 0] 25 (0, 0)) := by
          rw [hwd]
          refine (heap_setO (by omega)).trans ?_
          refine (heap_setO (by omega)).trans ?_
          exact B2
        replace B3 : wd.heap[w.heap.size + 1 + 1 + 1]? = some (.cells #[.int .i64 0, .bool false, .string ByteArray.empty, .slice none 0 0, .slice none 0 0, .int .u64 0] 50 (0, 0)) := by
          rw [hwd]
          refine (heap_setO (by omega)).trans ?_
          refine (heap_setO (by omega)).trans ?_
          exact B3
        replace B4 : wd.heap[w.heap.size + 1 + 1 + 1 + 1]? = some (.cells #[.int .i64 0, .bool false, .string ByteArray.empty, .slice none 0 0, .slice HA L.length hc, .int .u64 0] 50 (0, 0)) := by
          rw [hwd]
          refine (heap_setO (by omega)).trans ?_
          refine (heap_setO (by omega)).trans ?_
          exact B4
        have HOD := hid (show Own bit 4 1 wd (w.heap.size + 1 + 1 + 1 + 1 + 1) HA hc L from by rw [hwd]; exact ((HGR.out.own.below HST3.out).setCell (by show w.heap.size < w.heap.size + 1 + 1 + 1 + 1 + 1; omega) _).setCell (by show w.heap.size < w.heap.size + 1 + 1 + 1 + 1 + 1; omega) _)
        have houtX : OutL w.heap.size PX T.pairs ∧ OutL w.heap.size QX T.queue := new_out HNW.out HGR.out.out (by omega)
        have hoffX : OffL w.heap.size PX T.pairs ∧ OffL w.heap.size QX T.queue := ⟨houtX.1.off (Nat.le_refl _) (by omega), houtX.2.off (Nat.le_refl _) (by omega)⟩
        have HID := hid (show ShIn wd wd.heap.size PX px QX qx T from by rw [zwd, hwd]; exact (HIX.out.offCell hoffX.1 hoffX.2 _ _).offCell hoffX.1 hoffX.2 _ _)
        have hrowX : ∀ r, rowOf HA hc = some r → OffL r PX T.pairs ∧ OffL r QX T.queue := new_row HNW.out HGR.out.off HGR.out.own
        have HOUT := hid houtX
        have HROW := hid hrowX
        have y111' : wd.cell? ⟨p11, 1, none⟩ = some (.bool fd) := by rw [hwd, cell_oth (by omega), cell_oth (by omega)]; exact y111
        have y11d : p11 < wd.heap.size := by omega
        clear hwd hoffX houtX hrowX y111 y100 y101
        clear s0 s1 fs0 fs1 k0 k1 k2 k3 k4 r0 r1 fr0 fr1 q0 q1 q2 q3 q4 q5 fq0 fq1 fq2 fq3 fq4 fq5 a0 a1 a2 a3 a4 a5 fa0 fa1 fa2 fa3 fa4 fa5 l0 l1 l2 l3 l4
        have s0 := cell_of_row wd _ 0 _ _ _ B0
        have s1 := cell_of_row wd _ 1 _ _ _ B0
        have fs0 := frozen_of_row wd _ 0 _ _ B0
        have fs1 := frozen_of_row wd _ 1 _ _ B0
        have k0 := cell_of_row wd _ 0 _ _ _ B1
        have k1 := cell_of_row wd _ 1 _ _ _ B1
        have k2 := cell_of_row wd _ 2 _ _ _ B1
        have k3 := cell_of_row wd _ 3 _ _ _ B1
        have k4 := cell_of_row wd _ 4 _ _ _ B1
        have r0 := cell_of_row wd _ 0 _ _ _ B2
        have r1 := cell_of_row wd _ 1 _ _ _ B2
        have fr0 := frozen_of_row wd _ 0 _ _ B2
        have fr1 := frozen_of_row wd _ 1 _ _ B2
        have q0 := cell_of_row wd _ 0 _ _ _ B3
        have q1 := cell_of_row wd _ 1 _ _ _ B3
        have q2 := cell_of_row wd _ 2 _ _ _ B3
        have q3 := cell_of_row wd _ 3 _ _ _ B3
        have q4 := cell_of_row wd _ 4 _ _ _ B3
        have q5 := cell_of_row wd _ 5 _ _ _ B3
        have fq0 := frozen_of_row wd _ 0 _ _ B3
        have fq1 := frozen_of_row wd _ 1 _ _ B3
        have fq2 := frozen_of_row wd _ 2 _ _ B3
        have fq3 := frozen_of_row wd _ 3 _ _ B3
        have fq4 := frozen_of_row wd _ 4 _ _ B3
        have fq5 := frozen_of_row wd _ 5 _ _ B3
        have a0 := cell_of_row wd _ 0 _ _ _ B4
        have a1 := cell_of_row wd _ 1 _ _ _ B4
        have a2 := cell_of_row wd _ 2 _ _ _ B4
        have a3 := cell_of_row wd _ 3 _ _ _ B4
        have a4 := cell_of_row wd _ 4 _ _ _ B4
        have a5 := cell_of_row wd _ 5 _ _ _ B4
        have fa0 := frozen_of_row wd _ 0 _ _ B4
        have fa1 := frozen_of_row wd _ 1 _ _ B4
        have fa2 := frozen_of_row wd _ 2 _ _ B4
        have fa3 := frozen_of_row wd _ 3 _ _ B4
        have fa4 := frozen_of_row wd _ 4 _ _ B4
        have fa5 := frozen_of_row wd _ 5 _ _ B4
        simp only [List.getElem?_toArray, List.getElem?_cons_zero, List.getElem?_cons_succ] at s0 s1 k0 k1 k2 k3 k4 r0 r1 q0 q1 q2 q3 q4 q5 a0 a1 a2 a3 a4 a5
        have l0 : w.heap.size < wd.heap.size := by omega
        have l1 : w.heap.size + 1 < wd.heap.size := by omega
        have l2 : w.heap.size + 1 + 1 < wd.heap.size := by omega
        have l3 : w.heap.size + 1 + 1 + 1 < wd.heap.size := by omega
        have l4 : w.heap.size + 1 + 1 + 1 + 1 < wd.heap.size := by omega
        have HBD := hid bwd
        have HRD := hid (And.intro B0 (And.intro B1 (And.intro B2 (And.intro B3 B4))))
        clear B0 B1 B2 B3 B4
        go_wp2_with (at_builtin; refine app_bit (l := L) (m := [fd]) (A := HA) (c := hc) (lo := w.heap.size + 1 + 1 + 1 + 1 + 1) _ rfl (.tmp 148) (.tmp 151) rfl rfl (HOD.out.alloc _) 1 rfl (arr_one_bit (vb := wc.heap.size) (x := fd) (heap_newR zwd.symm)) (by have := HLL.out; simp; omega) (by simp; omega) ?_; intro A' c' w6 hown hgr6 hloc; have hq6 := row4_grown HRD.out.2.2.2.2 HOD.out hgr6; have e64 : w6.cell? ⟨w.heap.size + 1 + 1 + 1 + 1, 4, none⟩ = some (.slice HA L.length hc) := (by rw [cell_of_row w6 _ 4 _ _ _ hq6]; rfl); have f64 := frozen_of_row w6 _ 4 _ _ hq6)
        refine ⟨⟨k + 1, PX, px, QX, qx, A', c', by omega, by go_num, ?_⟩, by simp [intOf]; omega⟩
        have e1 : doAll (g.take (k + 1)) s = T := by rw [doAll_succ hlt, ← HSk.out, HT.out]
        have e2 : hitsOf (g.take (k + 1)) s = L ++ [fd] := by rw [hitsOf_succ hlt, ← HSk.out, ← HLk.out, HFD.out]
        rw [e1, e2]
        exact GR.next HBD.out (by omega) HRD.out.1 HRD.out.2.1 HRD.out.2.2.1 HRD.out.2.2.2.1 HRD.out.2.2.2.2 HID.out HOUT.out HOD.out HROW.out hgr6 hown hloc (by simp)
    · have hgk : g.take k = g := List.take_of_length_le (by omega)
      have HSG := hid (show S = doAll g s by rw [HSk.out, hgk])
      have HLG := hid (show L = hitsOf g s by rw [HLk.out, hgk])
      have hlk : ¬ (k : Int) < (g.length : Int) := by omega
      clear hgk
      go_upto_region 35 with fail
      go_region
      all_goals
        go_wp2_with fail
        have hshr := HGR.out.sh
        have hown := HGR.out.own
        have ho := HGR.out.out
        have HKL := hid (show ({ ans0 0 with hits := hitsOf g s } : Ans).hits = L from HLG.out.symm)
        refine bodyPost_ret (v := .tuple #[.agg #[.slice P S.pairs.length pc', .slice Q S.queue.length qc'], .agg #[.int .i64 0, .bool false, .string ByteArray.empty, .slice none 0 0, .slice HA L.length hc, .int .u64 0]]) (by simp [results, Tryz.results30, go_sem, r0, r1, q0, q1, q2, q3, q4, q5]) rfl ⟨P, pc', Q, qc', none, 0, HA, hc, by rw [HSG.out, HLG.out]; rfl, ?_, Arr.nil, Nat.le_refl _, by omega, ?_, by rw [HKL.out]; exact hown.len, hown.max, ?_⟩
        · rw [← HSG.out]
          refine ShIn.more (B := wr.heap.size) ?_ (by simp)
          repeat (first | with_reducible exact hshr | with_reducible refine ShIn.dr' ?_ | with_reducible refine ShIn.offCell ?_ (ho.1.off (by omega) (by omega)) (ho.2.off (by omega) (by omega)) _ _)
        · rw [HKL.out]
          refine Own.arr bit_len (e := 4) (c := hc) (lo := w.heap.size + 1 + 1 + 1 + 1 + 1) ?_
          repeat (first | with_reducible exact hown | with_reducible refine Own.drew ?_ | with_reducible refine Own.setCell ?_ (by first | (show w.heap.size + 1 + 1 < w.heap.size + 1 + 1 + 1 + 1 + 1; omega) | (show w.heap.size + 1 + 1 + 1 < w.heap.size + 1 + 1 + 1 + 1 + 1; omega)) _)
        · exact (by repeat (first | with_reducible exact Below.refl _ _ | with_reducible assumption | with_reducible refine Below.drew ?_ | with_reducible refine below_drewN ?_ _ | with_reducible refine Below.alloc ?_ (by first | omega | (simp; done) | (simp; omega)) _ | with_reducible refine Below.setCell ?_ (by first | omega | (simp; done) | (simp; omega)) _))
end Go.Proofs.YtamcehfcjcmpmaaGreatDoor
namespace Go.Proofs.YtamcehfcjcmpmaaGreatDoor
open Go.RowKit

theorem headD_at {l : List ByteArray} (h : 0 < l.length) : l.headD ByteArray.empty = l[0] := by
  cases l with
  | nil => simp at h
  | cons x l => rfl
theorem isEmpty_not {l : List ByteArray} (h : 0 < l.length) : (!l.isEmpty) = true := by
  cases l with
  | nil => simp at h
  | cons x l => rfl
theorem refap_good (s : Shelf) (PA : Option Addr) (pc : Nat) (QA : Option Addr) (qc : Nat) (kind : Int) (key val to' : ByteArray) (gA : Option Addr) (gn gc : Nat) (g : List Call0) (w : World) (h : ShIn w w.heap.size PA pc QA qc s) (hp : s.pairs.length ≤ 80000) (hq : s.queue.length ≤ 80000) (hc : CallIn w w.heap.size ⟨kind, key, val, to', gA, gn, gc⟩ g)
    (hgood : goodI ⟨kind, key, val, to', gA, gn, gc⟩ g = 0) (h7 : kind ≠ 7) :
    Calls Tryz.prog 30 #[.agg #[.slice PA s.pairs.length pc, .slice QA s.queue.length qc], .agg #[.int .i64 kind, .string key, .string val, .string to', .slice gA gn gc]] w (GivesRY (doS ⟨kind, key, val, to', gA, gn, gc⟩ s) (doA ⟨kind, key, val, to', gA, gn, gc⟩ s (ans0 0)) w) := by
  have hk := good_kind hgood
  simp only at hk
  rcases (by omega : kind = 1 ∨ kind = 2 ∨ kind = 3 ∨ kind = 4 ∨ kind = 5 ∨ kind = 6 ∨ kind = 8) with rfl | rfl | rfl | rfl | rfl | rfl | rfl
  · exact (refap_k1 s PA pc QA qc key val to' gA gn gc g w h (by omega) (by omega) hc hgood).mono fun _ _ h => h.y
  · exact (refap_k2 s PA pc QA qc key val to' gA gn gc g w h (by omega) (by omega) hc hgood).mono fun _ _ h => h.y
  · exact (refap_k3 s PA pc QA qc key val to' gA gn gc g w h (by omega) (by omega) hc hgood).mono fun _ _ h => h.y
  · exact (refap_k4 s PA pc QA qc key val to' gA gn gc g w h (by omega) (by omega) hc hgood).mono fun _ _ h => h.y
  · have e : doA ⟨5, key, val, to', gA, gn, gc⟩ s (ans0 0) = { ans0 0 with value := s.queue.headD ByteArray.empty, found := !s.queue.isEmpty } := rfl
    rw [e]
    by_cases hq0 : 0 < s.queue.length
    · have e1 : s.queue.headD ByteArray.empty = s.queue[0] := headD_at hq0
      have e2 : (!s.queue.isEmpty) = true := isEmpty_not hq0
      rw [e1, e2]
      exact (refap_k51 s PA pc QA qc key val to' gA gn gc g w h (by omega) (by omega) hq0 hc hgood).mono fun _ _ h => h.y
    · have e0 : s.queue = [] := List.eq_nil_of_length_eq_zero (by omega)
      have e1 : s.queue.headD ByteArray.empty = ByteArray.empty := by rw [e0]; rfl
      have e2 : (!s.queue.isEmpty) = false := by rw [e0]; rfl
      rw [e1, e2]
      exact (refap_k50 s PA pc QA qc key val to' gA gn gc g w h (by omega) (by omega) hq0 hc hgood).mono fun _ _ h => h.y
  · exact (refap_k6 s PA pc QA qc key val to' gA gn gc g w h (by omega) (by omega) hc hgood).mono fun _ _ h => h.y
  · exact (refap_k8 s PA pc QA qc key val to' gA gn gc g w h (by omega) (by omega) hc hgood).mono fun _ _ h => h.y
theorem refap_any (s : Shelf) (PA : Option Addr) (pc : Nat) (QA : Option Addr) (qc : Nat) (kind : Int) (key val to' : ByteArray) (gA : Option Addr) (gc : Nat) (g : List Call0) (w : World) (h : ShIn w w.heap.size PA pc QA qc s) (hp : s.pairs.length ≤ 80000) (hq : s.queue.length ≤ 80000) (hc : CallIn w w.heap.size ⟨kind, key, val, to', gA, g.length, gc⟩ g)
    (hel : ∀ x ∈ g, ∃ g', CallIn w w.heap.size x g') :
    Calls Tryz.prog 30 #[.agg #[.slice PA s.pairs.length pc, .slice QA s.queue.length qc], .agg #[.int .i64 kind, .string key, .string val, .string to', .slice gA g.length gc]] w (GivesRY (apS ⟨kind, key, val, to', gA, g.length, gc⟩ g s) (apA ⟨kind, key, val, to', gA, g.length, gc⟩ g s) w) := by
  unfold apS apA
  rcases goodI_bit' ⟨kind, key, val, to', gA, g.length, gc⟩ g with hg | hg | hg
  · rw [if_pos hg, if_pos hg]
    by_cases h7 : kind = 7
    · subst h7
      rw [if_pos rfl, if_pos rfl]
      exact refap_grp0 s PA pc QA qc key val to' gA gc g w h hp hq hc hel hg
    · rw [if_neg h7, if_neg h7]
      exact refap_good s PA pc QA qc kind key val to' gA g.length gc g w h hp hq hc hg h7
  · rw [if_neg (by omega), if_neg (by omega), hg]
    exact (refap_bad1 s PA pc QA qc key val to' gA g.length gc g w h (by omega) (by omega) kind hc hg).mono fun _ _ h => h.y
  · rw [if_neg (by omega), if_neg (by omega), hg]
    exact (refap_bad5 s PA pc QA qc key val to' gA g.length gc g w h (by omega) (by omega) kind hc hg).mono fun _ _ h => h.y
end Go.Proofs.YtamcehfcjcmpmaaGreatDoor
