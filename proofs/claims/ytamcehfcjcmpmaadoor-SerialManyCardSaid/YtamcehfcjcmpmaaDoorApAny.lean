/- ideal.Apply of any call. -/
import Derived.Test.YtamcehfcjcmpmaaDoorGrp
namespace Go.Proofs.YtamcehfcjcmpmaaDoor
open Go.RowKit

theorem goodI_bit' (c : Call0) (g : List Call0) : goodI c g = 0 ∨ goodI c g = 1 ∨ goodI c g = 5 := by
  unfold goodI
  repeat' split
  all_goals simp
theorem good_kind {c : Call0} {g : List Call0} (h : goodI c g = 0) : 1 ≤ c.kind ∧ c.kind ≤ 8 := by
  unfold goodI at h
  split at h
  · cases h
  · rename_i hs
    rw [Bool.not_eq_false] at hs
    unfold shapeB at hs
    split at hs
    · cases hs
    · omega
set_option maxHeartbeats 4000000 in
set_option maxRecDepth 100000 in
theorem apply_bad (s : Shelf) (PA : Option Addr) (pc : Nat) (QA : Option Addr) (qc : Nat) (c : Call0) (g : List Call0) (w : World) (h : ShIn w w.heap.size PA pc QA qc s) (hp : s.pairs.length ≤ 100000) (hq : s.queue.length ≤ 100000) (hc : CallIn w w.heap.size c g)
    (code : Int) (hbad : goodI c g = code) (hcode : code = 1 ∨ code = 5) :
    Calls Tryd.prog 14 #[.agg #[.slice PA s.pairs.length pc, .slice QA s.queue.length qc], .agg #[.int .i64 c.kind, .string c.key, .string c.val, .string c.to, .slice c.gA c.gn c.gc]] w (GivesAp s (ans0 code) w) := by
  have HG := hid hbad
  clear hbad
  have H := hid h
  have HC := hid hc
  have HP := hid hp
  have HQ := hid hq
  clear h hc hp hq
  go_enter Tryd.func14, Tryd.ntmps14
  go_wp2_with fail
  refine (copied_any s PA pc QA qc _ ?_ (by have := HP.out; omega) (by have := HQ.out; omega)).mono ?_
  · exact (H.out.below (by repeat (first | exact Below.refl _ _ | assumption | refine Below.drew ?_ | refine below_drewN ?_ _ | refine Below.alloc ?_ (by first | omega | (simp; done) | (simp; omega)) _ | refine Below.setCell ?_ (by first | omega | (simp; done) | (simp; omega)) _))).more (by first | omega | (simp; done) | (simp; omega))
  rintro e w1 ⟨A1, c1, A2, c2, rfl, hown, hb1⟩
  obtain ⟨n, hn⟩ : ∃ n, n = w.heap.size := ⟨_, rfl⟩
  have hs1 : n + 4 ≤ w1.heap.size := by have := hb1.size; simp at this; omega
  have bw1 : Below w.heap.size w w1 := Below.trans (by repeat (first | exact Below.refl _ _ | assumption | refine Below.drew ?_ | refine below_drewN ?_ _ | refine Below.alloc ?_ (by first | omega | (simp; done) | (simp; omega)) _ | refine Below.setCell ?_ (by first | omega | (simp; done) | (simp; omega)) _)) (hb1.mono (show w.heap.size ≤ _ from (by first | omega | (simp; done) | (simp; omega))))
  have R1 : w1.heap[n + 1]? = some (.cells #[.int .i64 c.kind, .string c.key, .string c.val, .string c.to, .slice c.gA c.gn c.gc] 33 (0, 0)) := by
    rw [hb1.block _ (by simp; omega), heap_alloc_if, if_neg (by simp; omega), heap_alloc_if, if_neg (by simp; omega), heap_alloc_if, if_pos (by simp; omega)]
  have R2 : w1.heap[n + 2]? = some (.cells #[.slice none 0 0, .slice none 0 0] 25 (0, 0)) := by
    rw [hb1.block _ (by simp; omega), heap_alloc_if, if_neg (by simp; omega), heap_alloc_if, if_pos (by simp; omega)]
  have R3 : w1.heap[n + 3]? = some (.cells #[.int .i64 0, .bool false, .string ByteArray.empty, .slice none 0 0, .slice none 0 0, .int .u64 0] 40 (0, 0)) := by
    rw [hb1.block _ (by simp; omega), heap_alloc_if, if_pos (by simp; omega)]; rfl
  have HO := hid (show ShOwn w1 (n + 4) A1 c1 A2 c2 s from by rw [hn]; simpa using hown)
  clear hown hb1
  obtain ⟨p, hp⟩ : ∃ p, p = w1.heap.size := ⟨_, rfl⟩
  have k0 : w1.cell? ⟨w.heap.size + 1, 0, none⟩ = some (.int .i64 c.kind) := by rw [← hn, cell_of_row w1 _ 0 _ _ _ R1]; rfl
  have k1 : w1.cell? ⟨w.heap.size + 1, 1, none⟩ = some (.string c.key) := by rw [← hn, cell_of_row w1 _ 1 _ _ _ R1]; rfl
  have k2 : w1.cell? ⟨w.heap.size + 1, 2, none⟩ = some (.string c.val) := by rw [← hn, cell_of_row w1 _ 2 _ _ _ R1]; rfl
  have k3 : w1.cell? ⟨w.heap.size + 1, 3, none⟩ = some (.string c.to) := by rw [← hn, cell_of_row w1 _ 3 _ _ _ R1]; rfl
  have k4 : w1.cell? ⟨w.heap.size + 1, 4, none⟩ = some (.slice c.gA c.gn c.gc) := by rw [← hn, cell_of_row w1 _ 4 _ _ _ R1]; rfl
  have hlt : w.heap.size + 1 < w1.heap.size := by omega
  have HN := hid hn
  have HPn := hid hp
  clear hn hp
  go_wp2_with fail
  refine (good_any c g _ ?_).mono ?_
  · exact (HC.out.below (bw1.trans (((Below.refl _ w1).alloc (Nat.le_refl _) _).mono bw1.size))).more (by have := bw1.size; simp; omega)
  rintro e w2 ⟨rfl, hb2⟩
  rw [HG.out]
  have hs2 : w1.heap.size + 1 ≤ w2.heap.size := by have := hb2.size; simpa using this
  have bw2 : Below w1.heap.size w1 w2 := Below.trans (by repeat (first | exact Below.refl _ _ | assumption | refine Below.drew ?_ | refine below_drewN ?_ _ | refine Below.alloc ?_ (by first | omega | (simp; done) | (simp; omega)) _ | refine Below.setCell ?_ (by first | omega | (simp; done) | (simp; omega)) _)) (hb2.mono (show w1.heap.size ≤ _ from (by first | omega | (simp; done) | (simp; omega))))
  have P2 : w2.heap[w1.heap.size]? = some (.cells #[.slice A1 s.pairs.length c1, .slice A2 s.queue.length c2] 25 (0, 0)) := by
    rw [hb2.block _ (by simp), heap_alloc_if, if_pos rfl]
  have hnn := HN.out
  have R24 : w2.heap[w.heap.size + 1 + 1]? = some (.cells #[.slice none 0 0, .slice none 0 0] 25 (0, 0)) := by
    rw [show w.heap.size + 1 + 1 = n + 2 by omega, bw2.block _ (by omega)]; exact R2
  have R34 : w2.heap[w.heap.size + 1 + 1 + 1]? = some (.cells #[.int .i64 0, .bool false, .string ByteArray.empty, .slice none 0 0, .slice none 0 0, .int .u64 0] 40 (0, 0)) := by
    rw [show w.heap.size + 1 + 1 + 1 = n + 3 by omega, bw2.block _ (by omega)]; exact R3
  have f20 := frozen_of_row w2 (w.heap.size + 1 + 1) 0 _ _ R24
  have f21 := frozen_of_row w2 (w.heap.size + 1 + 1) 1 _ _ R24
  have f30 := frozen_of_row w2 (w.heap.size + 1 + 1 + 1) 0 _ _ R34
  have f31 := frozen_of_row w2 (w.heap.size + 1 + 1 + 1) 1 _ _ R34
  have f32 := frozen_of_row w2 (w.heap.size + 1 + 1 + 1) 2 _ _ R34
  have f33 := frozen_of_row w2 (w.heap.size + 1 + 1 + 1) 3 _ _ R34
  have f34 := frozen_of_row w2 (w.heap.size + 1 + 1 + 1) 4 _ _ R34
  have f35 := frozen_of_row w2 (w.heap.size + 1 + 1 + 1) 5 _ _ R34
  have v20 := cell_of_row w2 (w.heap.size + 1 + 1) 0 _ _ _ R24
  have v21 := cell_of_row w2 (w.heap.size + 1 + 1) 1 _ _ _ R24
  have v30 := cell_of_row w2 (w.heap.size + 1 + 1 + 1) 0 _ _ _ R34
  have v31 := cell_of_row w2 (w.heap.size + 1 + 1 + 1) 1 _ _ _ R34
  have v32 := cell_of_row w2 (w.heap.size + 1 + 1 + 1) 2 _ _ _ R34
  have v33 := cell_of_row w2 (w.heap.size + 1 + 1 + 1) 3 _ _ _ R34
  have v34 := cell_of_row w2 (w.heap.size + 1 + 1 + 1) 4 _ _ _ R34
  have v35 := cell_of_row w2 (w.heap.size + 1 + 1 + 1) 5 _ _ _ R34
  have x0 := cell_of_row w2 w1.heap.size 0 _ _ _ P2
  have x1 := cell_of_row w2 w1.heap.size 1 _ _ _ P2
  simp only [List.getElem?_toArray, List.getElem?_cons_zero, List.getElem?_cons_succ] at v20 v21 v30 v31 v32 v33 v34 v35 x0 x1
  have n1 : ¬ (w.heap.size + 1 + 1 = w1.heap.size) := by omega
  have n2 : ¬ (w.heap.size + 1 + 1 = w2.heap.size) := by omega
  have n3 : ¬ (w.heap.size + 1 + 1 + 1 = w1.heap.size) := by omega
  have n4 : ¬ (w.heap.size + 1 + 1 + 1 = w2.heap.size) := by omega
  have l1 : w1.heap.size < w2.heap.size := by omega
  have l2 : w.heap.size + 1 + 1 < w2.heap.size := by omega
  have l3 : w.heap.size + 1 + 1 + 1 < w2.heap.size := by omega
  have HBB := hid (bw1.trans (bw2.mono bw1.size))
  have OP := hid (HO.out.pairs.below bw2)
  have OQ := hid (HO.out.queue.below bw2)
  clear hnn hb2 k0 k1 k2 k3 k4 P2 R24 R34 R1 R2 R3
  rcases hcode with rfl | rfl
  · go_wp2_with fail
    go_region
    go_wp2_with fail
    have hnn := HN.out
    have hOP := OP.out
    have hOQ := OQ.out
    have hBB := HBB.out
    refine bodyPost_ret (v := .tuple #[.agg #[.slice A1 s.pairs.length c1, .slice A2 s.queue.length c2], .agg #[.int .i64 1, .bool false, .string ByteArray.empty, .slice none 0 0, .slice none 0 0, .int .u64 0]])
      (by simp [results, Tryd.results14, go_sem, l2, l3, v20, v21, v30, v31, v32, v33, v34, v35]; rfl) rfl ⟨A1, c1, A2, c2, none, 0, none, 0, rfl, ⟨?_, ?_, HO.out.apart⟩, Own.none_, Own.none_, ?_⟩
    · refine Own.lower (lo := n + 4) ?_ (by omega)
      repeat (first | with_reducible exact hOP | with_reducible refine Own.drew ?_ | with_reducible refine Own.alloc ?_ _ | with_reducible refine Own.setCell ?_ (by first | (show w.heap.size + 1 + 1 < n + 4; omega) | (show w.heap.size + 1 + 1 + 1 < n + 4; omega)) _)
    · refine Own.lower (lo := n + 4) ?_ (by omega)
      repeat (first | with_reducible exact hOQ | with_reducible refine Own.drew ?_ | with_reducible refine Own.alloc ?_ _ | with_reducible refine Own.setCell ?_ (by first | (show w.heap.size + 1 + 1 < n + 4; omega) | (show w.heap.size + 1 + 1 + 1 < n + 4; omega)) _)
    · repeat (first | with_reducible exact hBB | with_reducible refine Below.drew ?_ | with_reducible refine Below.alloc ?_ (by first | omega | (simp; omega)) _ | with_reducible refine Below.setCell ?_ (by first | (show w.heap.size ≤ w.heap.size + 1 + 1; omega) | (show w.heap.size ≤ w.heap.size + 1 + 1 + 1; omega)) _)
  · go_wp2_with fail
    go_region
    go_wp2_with fail
    have hnn := HN.out
    have hOP := OP.out
    have hOQ := OQ.out
    have hBB := HBB.out
    refine bodyPost_ret (v := .tuple #[.agg #[.slice A1 s.pairs.length c1, .slice A2 s.queue.length c2], .agg #[.int .i64 5, .bool false, .string ByteArray.empty, .slice none 0 0, .slice none 0 0, .int .u64 0]])
      (by simp [results, Tryd.results14, go_sem, l2, l3, v20, v21, v30, v31, v32, v33, v34, v35]; rfl) rfl ⟨A1, c1, A2, c2, none, 0, none, 0, rfl, ⟨?_, ?_, HO.out.apart⟩, Own.none_, Own.none_, ?_⟩
    · refine Own.lower (lo := n + 4) ?_ (by omega)
      repeat (first | with_reducible exact hOP | with_reducible refine Own.drew ?_ | with_reducible refine Own.alloc ?_ _ | with_reducible refine Own.setCell ?_ (by first | (show w.heap.size + 1 + 1 < n + 4; omega) | (show w.heap.size + 1 + 1 + 1 < n + 4; omega)) _)
    · refine Own.lower (lo := n + 4) ?_ (by omega)
      repeat (first | with_reducible exact hOQ | with_reducible refine Own.drew ?_ | with_reducible refine Own.alloc ?_ _ | with_reducible refine Own.setCell ?_ (by first | (show w.heap.size + 1 + 1 < n + 4; omega) | (show w.heap.size + 1 + 1 + 1 < n + 4; omega)) _)
    · repeat (first | with_reducible exact hBB | with_reducible refine Below.drew ?_ | with_reducible refine Below.alloc ?_ (by first | omega | (simp; omega)) _ | with_reducible refine Below.setCell ?_ (by first | (show w.heap.size ≤ w.heap.size + 1 + 1; omega) | (show w.heap.size ≤ w.heap.size + 1 + 1 + 1; omega)) _)
theorem apply_any (s : Shelf) (PA : Option Addr) (pc : Nat) (QA : Option Addr) (qc : Nat) (c : Call0) (g : List Call0) (w : World) (h : ShIn w w.heap.size PA pc QA qc s) (hp : s.pairs.length ≤ 90000) (hq : s.queue.length ≤ 90000) (hc : CallIn w w.heap.size c g) :
    Calls Tryd.prog 14 #[.agg #[.slice PA s.pairs.length pc, .slice QA s.queue.length qc], .agg #[.int .i64 c.kind, .string c.key, .string c.val, .string c.to, .slice c.gA c.gn c.gc]] w (GivesAp (apS c g s) (apA c g s) w) := by
  unfold apS apA
  rcases goodI_bit' c g with hg | hg | hg
  · rw [if_pos hg, if_pos hg]
    by_cases h7 : c.kind = 7
    · rw [if_pos h7, if_pos h7]
      exact apply_group s PA pc QA qc c g w h hp hq hc hg h7
    · rw [if_neg h7, if_neg h7]
      have hk := good_kind hg
      exact apply_flat s PA pc QA qc c g w h (by omega) (by omega) hc hg h7 (by omega)
  · rw [if_neg (by omega), if_neg (by omega), hg]
    exact apply_bad s PA pc QA qc c g w h (by omega) (by omega) hc 1 hg (.inl rfl)
  · rw [if_neg (by omega), if_neg (by omega), hg]
    exact apply_bad s PA pc QA qc c g w h (by omega) (by omega) hc 5 hg (.inr rfl)
end Go.Proofs.YtamcehfcjcmpmaaDoor
