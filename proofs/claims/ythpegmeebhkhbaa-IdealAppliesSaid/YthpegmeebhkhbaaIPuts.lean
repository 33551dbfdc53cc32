/- The statement IdealPuts: the walk. -/
import Derived.Test.YthpegmeebhkhbaaApp
import Derived.Test.YthpegmeebhkhbaaRepI
import Derived.Test.YthpegmeebhkhbaaRef1
namespace Go.Proofs.Ythpegmeebhkhbaa
open Go.RowKit

theorem carry2 {W W' : World} {n : Nat} {v0 v1 : Value} (hb : Below W.heap.size W W') (h : n < W.heap.size ∧ W.cell? ⟨n, 0, none⟩ = some v0 ∧ W.cell? ⟨n, 1, none⟩ = some v1) : n < W'.heap.size ∧ W'.cell? ⟨n, 0, none⟩ = some v0 ∧ W'.cell? ⟨n, 1, none⟩ = some v1 :=
  ⟨Nat.lt_of_lt_of_le h.1 hb.size, (hb.cell (p := ⟨n, 0, none⟩) h.1).trans h.2.1, (hb.cell (p := ⟨n, 1, none⟩) h.1).trans h.2.2⟩
theorem carry5 {W W' : World} {n : Nat} {v0 v1 v2 v3 v4 : Value} (hb : Below W.heap.size W W') (h : n < W.heap.size ∧ W.cell? ⟨n, 0, none⟩ = some v0 ∧ W.cell? ⟨n, 1, none⟩ = some v1 ∧ W.cell? ⟨n, 2, none⟩ = some v2 ∧ W.cell? ⟨n, 3, none⟩ = some v3 ∧ W.cell? ⟨n, 4, none⟩ = some v4) :
    n < W'.heap.size ∧ W'.cell? ⟨n, 0, none⟩ = some v0 ∧ W'.cell? ⟨n, 1, none⟩ = some v1 ∧ W'.cell? ⟨n, 2, none⟩ = some v2 ∧ W'.cell? ⟨n, 3, none⟩ = some v3 ∧ W'.cell? ⟨n, 4, none⟩ = some v4 :=
  ⟨Nat.lt_of_lt_of_le h.1 hb.size, (hb.cell (p := ⟨n, 0, none⟩) h.1).trans h.2.1, (hb.cell (p := ⟨n, 1, none⟩) h.1).trans h.2.2.1, (hb.cell (p := ⟨n, 2, none⟩) h.1).trans h.2.2.2.1, (hb.cell (p := ⟨n, 3, none⟩) h.1).trans h.2.2.2.2.1, (hb.cell (p := ⟨n, 4, none⟩) h.1).trans h.2.2.2.2.2⟩
theorem carry1 {W W' : World} {n i : Nat} {v : Value} (hb : Below W.heap.size W W') (h : n < W.heap.size ∧ W.cell? ⟨n, i, none⟩ = some v) : n < W'.heap.size ∧ W'.cell? ⟨n, i, none⟩ = some v :=
  ⟨Nat.lt_of_lt_of_le h.1 hb.size, (hb.cell (p := ⟨n, i, none⟩) h.1).trans h.2⟩
def putC (k v : ByteArray) : Call0 := ⟨2, k, v, ByteArray.empty, none, 0, 0⟩
def delC (k : ByteArray) : Call0 := ⟨3, k, ByteArray.empty, ByteArray.empty, none, 0, 0⟩
theorem goodI_bit (c : Call0) (g : List Call0) : goodI c g = 0 ∨ goodI c g = 1 ∨ goodI c g = 5 := by
  unfold goodI
  repeat' split
  all_goals simp
theorem good_del {k v : ByteArray} (h : goodI (putC k v) [] = 0) : goodI (delC k) [] = 0 := by
  unfold goodI shapeB longB flatLong putC at h
  unfold goodI shapeB longB flatLong delC
  simp_all [keyedB]
  repeat' split at h
  all_goals first | (exfalso; omega) | (simp_all; done) | (split <;> simp_all <;> omega)
set_option maxHeartbeats 4000000 in
set_option maxRecDepth 100000 in
theorem idealPuts_any (s : Shelf) (PA : Option Addr) (pc : Nat) (QA : Option Addr) (qc : Nat) (k v o : ByteArray) (w : World) (h : ShIn w w.heap.size PA pc QA qc s) :
    Calls Try.prog 15 #[.agg #[.slice PA s.pairs.length pc, .slice QA s.queue.length qc], .string k, .string v, .string o] w fun e w' => e = .returned (.bool true) ∧ Below w.heap.size w w' := by
  have H := hid h
  have hplen := h.plen
  have hpmax := h.pmax
  have hqlen := h.qlen
  have hqmax := h.qmax
  clear h
  go_enter Try.func15, Try.ntmps15
  go_wp2_with fail
  refine (put_any k v _).mono ?_
  rintro e w1 ⟨rfl, hb1⟩
  have bw1 : Below w.heap.size w w1 := Below.trans (by repeat (first | exact Below.refl _ _ | assumption | refine Below.drew ?_ | refine below_drewN ?_ _ | refine Below.alloc ?_ (by first | omega | (simp; done) | (simp; omega)) _ | refine Below.setCell ?_ (by first | omega | (simp; done) | (simp; omega)) _)) (hb1.mono (show w.heap.size ≤ _ from (by first | omega | (simp; done) | (simp; omega))))
  have X0 : w.heap.size < w1.heap.size ∧ w1.cell? ⟨w.heap.size, 0, none⟩ = some (.slice PA s.pairs.length pc) ∧ w1.cell? ⟨w.heap.size, 1, none⟩ = some (.slice QA s.queue.length qc) := carry2 hb1 ⟨by simp, by simp [go_sem], by simp [go_sem]⟩
  clear hb1
  go_wp2_with fail
  refine (large_any s PA pc QA qc (putC k v) [] _ (in_below H.out (show Below w.heap.size w _ from bw1.alloc bw1.size _)) ⟨Arr.nil, rfl, by simp [putC], by simp [putC]⟩).mono ?_
  rintro e w2 ⟨r, rfl, hb2, hsm⟩
  have X1 : w1.heap.size < w2.heap.size ∧ w2.cell? ⟨w1.heap.size, 0, none⟩ = some (.int .i64 2) ∧ w2.cell? ⟨w1.heap.size, 1, none⟩ = some (.string k) ∧ w2.cell? ⟨w1.heap.size, 2, none⟩ = some (.string v) ∧ w2.cell? ⟨w1.heap.size, 3, none⟩ = some (.string ByteArray.empty) ∧ w2.cell? ⟨w1.heap.size, 4, none⟩ = some (.slice none 0 0) := carry5 hb2 ⟨by simp, by simp [go_sem], by simp [go_sem], by simp [go_sem], by simp [go_sem], by simp [go_sem]⟩
  have st2 : Below w1.heap.size w1 w2 := Below.trans (by repeat (first | exact Below.refl _ _ | assumption | refine Below.drew ?_ | refine below_drewN ?_ _ | refine Below.alloc ?_ (by first | omega | (simp; done) | (simp; omega)) _ | refine Below.setCell ?_ (by first | omega | (simp; done) | (simp; omega)) _)) (hb2.mono (show w1.heap.size ≤ _ from (by first | omega | (simp; done) | (simp; omega)))); have bw2 : Below w.heap.size w w2 := bw1.trans (st2.mono bw1.size); clear hb2
  replace X0 := carry2 st2 X0
  cases r with
  | true =>
    clear hsm X1
    go_wp2_with fail
    (refine (awake15 _).mono ?_; rintro e wZ ⟨rfl, hbZ⟩; go_wp2; go_ret; exact ⟨rfl, bw2.trans (Below.trans (b := _) (by repeat (first | exact Below.refl _ _ | assumption | refine Below.drew ?_ | refine below_drewN ?_ _ | refine Below.alloc ?_ (by first | omega | (simp; done) | (simp; omega)) _ | refine Below.setCell ?_ (by first | omega | (simp; done) | (simp; omega)) _)) (hbZ.mono (by first | exact bw2.size | (simp; have := bw2.size; omega))))⟩)
  | false =>
  have HS := hid (hsm rfl)
  clear hsm
  have ho0 : (0 : Int) ≤ o.size := by omega
  by_cases hos : (1000 : Int) < (o.size : Int)
  case pos =>
    go_wp2_with fail
    (refine (awake15 _).mono ?_; rintro e wZ ⟨rfl, hbZ⟩; go_wp2; go_ret; exact ⟨rfl, bw2.trans (Below.trans (b := _) (by repeat (first | exact Below.refl _ _ | assumption | refine Below.drew ?_ | refine below_drewN ?_ _ | refine Below.alloc ?_ (by first | omega | (simp; done) | (simp; omega)) _ | refine Below.setCell ?_ (by first | omega | (simp; done) | (simp; omega)) _)) (hbZ.mono (by first | exact bw2.size | (simp; have := bw2.size; omega))))⟩)
  go_wp2_with fail
  refine (may_any s PA pc QA s.queue.length qc _ (in_below H.out bw2).pairs hplen hpmax).mono ?_
  rintro e w3 ⟨rfl, hb3⟩
  have st3 : Below w2.heap.size w2 w3 := Below.trans (by repeat (first | exact Below.refl _ _ | assumption | refine Below.drew ?_ | refine below_drewN ?_ _ | refine Below.alloc ?_ (by first | omega | (simp; done) | (simp; omega)) _ | refine Below.setCell ?_ (by first | omega | (simp; done) | (simp; omega)) _)) (hb3.mono (show w2.heap.size ≤ _ from (by first | omega | (simp; done) | (simp; omega)))); have bw3 : Below w.heap.size w w3 := bw2.trans (st3.mono bw2.size); clear hb3
  replace X0 := carry2 st3 X0
  replace X1 := carry5 st3 X1
  cases hmay : mayB s.pairs with
  | false =>
    clear hmay
    go_wp2_with fail
    (refine (awake15 _).mono ?_; rintro e wZ ⟨rfl, hbZ⟩; go_wp2; go_ret; exact ⟨rfl, bw3.trans (Below.trans (b := _) (by repeat (first | exact Below.refl _ _ | assumption | refine Below.drew ?_ | refine below_drewN ?_ _ | refine Below.alloc ?_ (by first | omega | (simp; done) | (simp; omega)) _ | refine Below.setCell ?_ (by first | omega | (simp; done) | (simp; omega)) _)) (hbZ.mono (by first | exact bw3.size | (simp; have := bw3.size; omega))))⟩)
  | true =>
  clear hmay
  go_wp2_with fail
  refine (good_any (putC k v) [] _ ⟨Arr.nil, rfl, by simp [putC], by simp [putC]⟩).mono ?_
  rintro e w4 ⟨rfl, hb4⟩
  have st4 : Below w3.heap.size w3 w4 := Below.trans (by repeat (first | exact Below.refl _ _ | assumption | refine Below.drew ?_ | refine below_drewN ?_ _ | refine Below.alloc ?_ (by first | omega | (simp; done) | (simp; omega)) _ | refine Below.setCell ?_ (by first | omega | (simp; done) | (simp; omega)) _)) (hb4.mono (show w3.heap.size ≤ _ from (by first | omega | (simp; done) | (simp; omega)))); have bw4 : Below w.heap.size w w4 := bw3.trans (st4.mono bw3.size); clear hb4
  replace X0 := carry2 st4 X0
  replace X1 := carry5 st4 X1
  by_cases hg : goodI (putC k v) [] = 0
  case neg =>
    rcases goodI_bit (putC k v) [] with hg1 | hg1 | hg1
    · exact absurd hg1 hg
    all_goals
      rw [hg1]
      clear hg hg1
      go_wp2_with fail
      (refine (awake15 _).mono ?_; rintro e wZ ⟨rfl, hbZ⟩; go_wp2; go_ret; exact ⟨rfl, bw4.trans (Below.trans (b := _) (by repeat (first | exact Below.refl _ _ | assumption | refine Below.drew ?_ | refine below_drewN ?_ _ | refine Below.alloc ?_ (by first | omega | (simp; done) | (simp; omega)) _ | refine Below.setCell ?_ (by first | omega | (simp; done) | (simp; omega)) _)) (hbZ.mono (by first | exact bw4.size | (simp; have := bw4.size; omega))))⟩)
  rw [hg]
  have HG := hid hg
  clear hg
  go_wp2_with fail
  refine (get_any s PA pc QA s.queue.length qc o _ (in_below H.out bw4).pairs hplen hpmax).mono ?_
  rintro e w5 ⟨rfl, hb5⟩
  have st5 : Below w4.heap.size w4 w5 := Below.trans (by repeat (first | exact Below.refl _ _ | assumption | refine Below.drew ?_ | refine below_drewN ?_ _ | refine Below.alloc ?_ (by first | omega | (simp; done) | (simp; omega)) _ | refine Below.setCell ?_ (by first | omega | (simp; done) | (simp; omega)) _)) (hb5.mono (show w4.heap.size ≤ _ from (by first | omega | (simp; done) | (simp; omega)))); have bw5 : Below w.heap.size w w5 := bw4.trans (st5.mono bw4.size); clear hb5
  replace X0 := carry2 st5 X0
  replace X1 := carry5 st5 X1
  go_wp2_with fail
  refine (apply_flat s PA pc QA qc (putC k v) [] _ (in_below H.out bw5) (by have := HS.out.pairs; omega) (by have := HS.out.queue; omega) ⟨Arr.nil, rfl, by simp [putC], by simp [putC]⟩ HG.out (by simp [putC]) (by simp [putC])).mono ?_
  rw [show doS (putC k v) s = ⟨setP s.pairs k v, s.queue⟩ by simp [doS, putC], show doA (putC k v) s (ans0 0) = { ans0 0 with found := hasK s.pairs k } by simp [doA, putC]]
  rintro e w6 ⟨PX, px, QX, qx, RX, rx, HX, hx, rfl, hownX, -, -, hb6⟩
  have st6 : Below w5.heap.size w5 w6 := Below.trans (by repeat (first | exact Below.refl _ _ | assumption | refine Below.drew ?_ | refine below_drewN ?_ _ | refine Below.alloc ?_ (by first | omega | (simp; done) | (simp; omega)) _ | refine Below.setCell ?_ (by first | omega | (simp; done) | (simp; omega)) _)) (hb6.mono (show w5.heap.size ≤ _ from (by first | omega | (simp; done) | (simp; omega)))); have bw6 : Below w.heap.size w w6 := bw5.trans (st6.mono bw5.size); clear hb6
  replace X0 := carry2 st6 X0
  clear X1
  obtain ⟨s2, hs2⟩ : ∃ s2, s2 = (⟨setP s.pairs k v, s.queue⟩ : Shelf) := ⟨_, rfl⟩
  have HS2 := hid hs2
  rw [← hs2] at hownX
  rw [show (setP s.pairs k v).length = s2.pairs.length by rw [hs2], show s.queue.length = s2.queue.length by rw [hs2]]
  have HL2 := hid (show s2.pairs.length ≤ 61 ∧ s2.queue.length ≤ 60 by
    have := setP_len s.pairs k v; have := HS.out.pairs; have := HS.out.queue
    rw [hs2]; simp only; omega)
  have HX := hid hownX
  have hxl := hownX.pairs.len
  have hxm := hownX.pairs.max
  have hyl := hownX.queue.len
  have hym := hownX.queue.max
  clear hs2 hownX
  go_wp2_with fail
  refine (get_any s2 PX px QX s2.queue.length qx k _ ((HX.out.in_.below (show Below w6.heap.size w6 _ from (by repeat (first | exact Below.refl _ _ | assumption | refine Below.drew ?_ | refine below_drewN ?_ _ | refine Below.alloc ?_ (by first | omega | (simp; done) | (simp; omega)) _ | refine Below.setCell ?_ (by first | omega | (simp; done) | (simp; omega)) _)))).more (by first | omega | (simp; done) | (simp; omega))).pairs hxl hxm).mono ?_
  rintro e w7 ⟨rfl, hb7⟩
  rw [show getD' s2.pairs k = (v, true) by rw [HS2.out, getD'_set, if_pos rfl]]
  have X2 : w6.heap.size < w7.heap.size ∧ w7.cell? ⟨w6.heap.size, 0, none⟩ = some (.slice PX s2.pairs.length px) ∧ w7.cell? ⟨w6.heap.size, 1, none⟩ = some (.slice QX s2.queue.length qx) := carry2 hb7 ⟨by simp; omega, by simp [go_sem], by simp [go_sem]⟩
  have X3 : w6.heap.size + 1 < w7.heap.size ∧ w7.cell? ⟨w6.heap.size + 1, 1, none⟩ = some (.bool (hasK s.pairs k)) := carry1 hb7 ⟨by simp, by simp [go_sem]⟩
  have st7 : Below w6.heap.size w6 w7 := Below.trans (by repeat (first | exact Below.refl _ _ | assumption | refine Below.drew ?_ | refine below_drewN ?_ _ | refine Below.alloc ?_ (by first | omega | (simp; done) | (simp; omega)) _ | refine Below.setCell ?_ (by first | omega | (simp; done) | (simp; omega)) _)) (hb7.mono (show w6.heap.size ≤ _ from (by first | omega | (simp; done) | (simp; omega)))); have bw7 : Below w.heap.size w w7 := bw6.trans (st7.mono bw6.size); clear hb7
  replace X0 := carry2 st7 X0
  go_wp2_with fail
  refine (get_any s2 PX px QX s2.queue.length qx o _ ((HX.out.in_.below (st7)).more st7.size).pairs hxl hxm).mono ?_
  rintro e w8 ⟨rfl, hb8⟩
  have st8 : Below w7.heap.size w7 w8 := Below.trans (by repeat (first | exact Below.refl _ _ | assumption | refine Below.drew ?_ | refine below_drewN ?_ _ | refine Below.alloc ?_ (by first | omega | (simp; done) | (simp; omega)) _ | refine Below.setCell ?_ (by first | omega | (simp; done) | (simp; omega)) _)) (hb8.mono (show w7.heap.size ≤ _ from (by first | omega | (simp; done) | (simp; omega)))); have bw8 : Below w.heap.size w w8 := bw7.trans (st8.mono bw7.size); clear hb8
  replace X0 := carry2 st8 X0
  replace X2 := carry2 st8 X2
  replace X3 := carry1 st8 X3
  go_wp2_with fail
  have st68 : Below w6.heap.size w6 w8 := st7.trans (st8.mono st7.size)
  refine (apply_flat s2 PX px QX qx (delC k) [] _ ((HX.out.in_.below st68).more st68.size) (by have := HL2.out.1; omega) (by have := HL2.out.2; omega) ⟨Arr.nil, rfl, by simp [delC], by simp [delC]⟩ (good_del HG.out) (by simp [delC]) (by simp [delC])).mono ?_
  rw [show doS (delC k) s2 = ⟨dropK k s2.pairs, s2.queue⟩ by simp [doS, delC], show doA (delC k) s2 (ans0 0) = { ans0 0 with found := true } by
    rw [show doA (delC k) s2 (ans0 0) = { ans0 0 with found := hasK s2.pairs k } by simp [doA, delC], ← getD'_hasK, HS2.out, getD'_set, if_pos rfl]]
  rintro e w9 ⟨PY, py, QY, qy, RY, ry, HY, hy, rfl, hownY, -, -, hb9⟩
  have st9 : Below w8.heap.size w8 w9 := Below.trans (by repeat (first | exact Below.refl _ _ | assumption | refine Below.drew ?_ | refine below_drewN ?_ _ | refine Below.alloc ?_ (by first | omega | (simp; done) | (simp; omega)) _ | refine Below.setCell ?_ (by first | omega | (simp; done) | (simp; omega)) _)) (hb9.mono (show w8.heap.size ≤ _ from (by first | omega | (simp; done) | (simp; omega)))); have bw9 : Below w.heap.size w w9 := bw8.trans (st9.mono bw8.size); clear hb9
  replace X0 := carry2 st9 X0
  replace X3 := carry1 st9 X3
  clear X2
  obtain ⟨s3, hs3⟩ : ∃ s3, s3 = (⟨dropK k s2.pairs, s2.queue⟩ : Shelf) := ⟨_, rfl⟩
  have HS3 := hid hs3
  rw [← hs3] at hownY
  rw [show (dropK k s2.pairs).length = s3.pairs.length by rw [hs3]]
  have HYO := hid hownY
  have hul := hownY.pairs.len
  have hum := hownY.pairs.max
  clear hs3 hownY
  go_wp2_with fail
  refine (get_any s3 PY py QY s2.queue.length qy k _ ((HYO.out.in_.below (show Below w9.heap.size w9 _ from (by repeat (first | exact Below.refl _ _ | assumption | refine Below.drew ?_ | refine below_drewN ?_ _ | refine Below.alloc ?_ (by first | omega | (simp; done) | (simp; omega)) _ | refine Below.setCell ?_ (by first | omega | (simp; done) | (simp; omega)) _)))).more (by first | omega | (simp; done) | (simp; omega))).pairs hul hum).mono ?_
  rintro e w10 ⟨rfl, hb10⟩
  rw [show getD' s3.pairs k = (ByteArray.empty, false) by rw [HS3.out, getD'_drop_same]]
  have X4 : w9.heap.size < w10.heap.size ∧ w10.cell? ⟨w9.heap.size, 0, none⟩ = some (.slice PY s3.pairs.length py) ∧ w10.cell? ⟨w9.heap.size, 1, none⟩ = some (.slice QY s2.queue.length qy) := carry2 hb10 ⟨by simp; omega, by simp [go_sem], by simp [go_sem]⟩
  have X5 : w9.heap.size + 1 < w10.heap.size ∧ w10.cell? ⟨w9.heap.size + 1, 1, none⟩ = some (.bool true) := carry1 hb10 ⟨by simp, by simp [go_sem]⟩
  have st10 : Below w9.heap.size w9 w10 := Below.trans (by repeat (first | exact Below.refl _ _ | assumption | refine Below.drew ?_ | refine below_drewN ?_ _ | refine Below.alloc ?_ (by first | omega | (simp; done) | (simp; omega)) _ | refine Below.setCell ?_ (by first | omega | (simp; done) | (simp; omega)) _)) (hb10.mono (show w9.heap.size ≤ _ from (by first | omega | (simp; done) | (simp; omega)))); have bw10 : Below w.heap.size w w10 := bw9.trans (st10.mono bw9.size); clear hb10
  replace X0 := carry2 st10 X0
  replace X3 := carry1 st10 X3
  go_wp2_with fail
  refine (get_any s3 PY py QY s2.queue.length qy o _ ((HYO.out.in_.below st10).more st10.size).pairs hul hum).mono ?_
  rintro e w11 ⟨rfl, hb11⟩
  have st11 : Below w10.heap.size w10 w11 := Below.trans (by repeat (first | exact Below.refl _ _ | assumption | refine Below.drew ?_ | refine below_drewN ?_ _ | refine Below.alloc ?_ (by first | omega | (simp; done) | (simp; omega)) _ | refine Below.setCell ?_ (by first | omega | (simp; done) | (simp; omega)) _)) (hb11.mono (show w10.heap.size ≤ _ from (by first | omega | (simp; done) | (simp; omega)))); have bw11 : Below w.heap.size w w11 := bw10.trans (st11.mono bw10.size); clear hb11
  replace X0 := carry2 st11 X0
  replace X3 := carry1 st11 X3
  replace X5 := carry1 st11 X5
  clear X4
  go_wp2_with fail
  refine (get_any s PA pc QA s.queue.length qc k _ (in_below H.out bw11).pairs hplen hpmax).mono ?_
  rintro e w12 ⟨rfl, hb12⟩
  rw [getD'_hasK s.pairs k]
  have st12 : Below w11.heap.size w11 w12 := Below.trans (by repeat (first | exact Below.refl _ _ | assumption | refine Below.drew ?_ | refine below_drewN ?_ _ | refine Below.alloc ?_ (by first | omega | (simp; done) | (simp; omega)) _ | refine Below.setCell ?_ (by first | omega | (simp; done) | (simp; omega)) _)) (hb12.mono (show w11.heap.size ≤ _ from (by first | omega | (simp; done) | (simp; omega)))); have bw12 : Below w.heap.size w w12 := bw11.trans (st12.mono bw11.size); clear hb12
  replace X3 := carry1 st12 X3
  replace X5 := carry1 st12 X5
  clear X0
  have hee : (v.toList == v.toList) = true := by simp
  by_cases hok : o = k
  · have heq : (o.toList == k.toList) = true := by rw [hok]; simp
    clear hok
    go_wp2_with fail
    (refine (awake15 _).mono ?_; rintro e wZ ⟨rfl, hbZ⟩; go_wp2; go_ret; exact ⟨rfl, bw12.trans (Below.trans (b := _) (by repeat (first | exact Below.refl _ _ | assumption | refine Below.drew ?_ | refine below_drewN ?_ _ | refine Below.alloc ?_ (by first | omega | (simp; done) | (simp; omega)) _ | refine Below.setCell ?_ (by first | omega | (simp; done) | (simp; omega)) _)) (hbZ.mono (by first | exact bw12.size | (simp; have := bw12.size; omega))))⟩)
  · have heq : (o.toList == k.toList) = false := by rw [beq_eq_false_iff_ne]; exact fun e => hok (toList_inj e)
    rw [show getD' s3.pairs o = getD' s.pairs o by rw [HS3.out, getD'_drop_other hok, HS2.out, getD'_set, if_neg hok], show getD' s2.pairs o = getD' s.pairs o by rw [HS2.out, getD'_set, if_neg hok]]
    clear hok
    go_wp2_with fail
    (refine (awake15 _).mono ?_; rintro e wZ ⟨rfl, hbZ⟩; go_wp2; go_ret; exact ⟨rfl, bw12.trans (Below.trans (b := _) (by repeat (first | exact Below.refl _ _ | assumption | refine Below.drew ?_ | refine below_drewN ?_ _ | refine Below.alloc ?_ (by first | omega | (simp; done) | (simp; omega)) _ | refine Below.setCell ?_ (by first | omega | (simp; done) | (simp; omega)) _)) (hbZ.mono (by first | exact bw12.size | (simp; have := bw12.size; omega))))⟩)
end Go.Proofs.Ythpegmeebhkhbaa
