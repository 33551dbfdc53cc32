/- The statement IdealWaits: the walk. -/
import Derived.Test.YthpegmeebhkhbaaIPuts
import Derived.Test.YthpegmeebhkhbaaSameG
namespace Go.Proofs.Ythpegmeebhkhbaa
open Go.RowKit

/-- what is held lies in no block p -/
def OffL {α : Type} (p : Nat) (A : Option Addr) (l : List α) : Prop := l = [] ∨ ∃ b o, A = some ⟨b, o, none⟩ ∧ b ≠ p
theorem Arr.offCell {α : Type} {enc : α → List Value} {k : Nat} {w : World} {B p : Nat} {A : Option Addr} {l : List α} (h : Arr enc k w B A l) (hl : OffL p A l) (i : Nat) (u : Value) : Arr enc k (w.setCell ⟨p, i, none⟩ u) B A l := by
  rcases h with h | ⟨b, off, hA, hB, hc⟩
  · exact .inl h
  · rcases hl with hl | ⟨b', o', hA', hne⟩
    · exact .inl hl
    · rw [hA] at hA'
      cases hA'
      refine .inr ⟨b, off, hA, hB, fun i' hi j u' hu => ?_⟩
      rw [← hc i' hi j u' hu]
      unfold World.cell?
      rw [Below.heap_setCell _ _ _ _ (by exact hne)]
theorem ShIn.offCell {w : World} {B p : Nat} {PA : Option Addr} {pc : Nat} {QA : Option Addr} {qc : Nat} {s : Shelf} (h : ShIn w B PA pc QA qc s) (h1 : OffL p PA s.pairs) (h2 : OffL p QA s.queue) (i : Nat) (u : Value) : ShIn (w.setCell ⟨p, i, none⟩ u) B PA pc QA qc s :=
  ⟨h.pairs.offCell h1 i u, h.plen, h.pmax, h.queue.offCell h2 i u, h.qlen, h.qmax⟩
theorem Own.off {α : Type} {enc : α → List Value} {e : TypeId} {k : Nat} {w : World} {lo p : Nat} {A : Option Addr} {c : Nat} {l : List α} (h : Own enc e k w lo A c l) (hp : p < lo ∨ w.heap.size ≤ p) : OffL p A l := by
  rcases h.lt with h0 | ⟨b, off, hA, hlo, hlt⟩
  · exact .inl (List.eq_nil_of_length_eq_zero (by have := h.1; omega))
  · exact .inr ⟨b, off, hA, by omega⟩
def enqC (v : ByteArray) : Call0 := ⟨4, ByteArray.empty, v, ByteArray.empty, none, 0, 0⟩
def deqC : Call0 := ⟨5, ByteArray.empty, ByteArray.empty, ByteArray.empty, none, 0, 0⟩
theorem good_enq {v : ByteArray} (h : (v.size : Int) ≤ 400) : goodI (enqC v) [] = 0 := by
  have h' : ¬ (400 : Int) < (v.size : Int) := by omega
  simp [goodI, shapeB, longB, flatLong, enqC, keyedB, h']
theorem good_deq : goodI deqC [] = 0 := by simp [goodI, shapeB, longB, flatLong, deqC, keyedB]
/-- a store in a variable, to be read -/
structure VarI (wr : World) (p : Nat) (PA : Option Addr) (pc : Nat) (QA : Option Addr) (qc : Nat) (s : Shelf) : Prop where
  row : wr.heap[p]? = some (.cells #[.slice PA s.pairs.length pc, .slice QA s.queue.length qc] 41 (0, 0))
  sh : ShIn wr wr.heap.size PA pc QA qc s
  off : OffL p PA s.pairs ∧ OffL p QA s.queue
theorem VarI.lt {wr : World} {p : Nat} {PA : Option Addr} {pc : Nat} {QA : Option Addr} {qc : Nat} {s : Shelf} (h : VarI wr p PA pc QA qc s) : p < wr.heap.size := lt_of_heap h.row
theorem VarI.cells {wr : World} {p : Nat} {PA : Option Addr} {pc : Nat} {QA : Option Addr} {qc : Nat} {s : Shelf} (h : VarI wr p PA pc QA qc s) : p < wr.heap.size ∧ wr.cell? ⟨p, 0, none⟩ = some (.slice PA s.pairs.length pc) ∧ wr.cell? ⟨p, 1, none⟩ = some (.slice QA s.queue.length qc) := by
  rw [cell_of_row wr p 0 _ _ _ h.row, cell_of_row wr p 1 _ _ _ h.row]
  exact ⟨h.lt, rfl, rfl⟩
theorem VarI.keep {wr W : World} {p : Nat} {PA : Option Addr} {pc : Nat} {QA : Option Addr} {qc : Nat} {s : Shelf} (h : VarI wr p PA pc QA qc s) (hb : Below wr.heap.size wr W) : VarI W p PA pc QA qc s :=
  ⟨(hb.block p h.lt).trans h.row, in_below h.sh hb, h.off⟩
theorem VarI.put {w1 : World} {p : Nat} {v0 v1 : Value} (hrow : w1.heap[p]? = some (.cells #[v0, v1] 41 (0, 0))) {PX : Option Addr} {px : Nat} {QX : Option Addr} {qx : Nat} {s' : Shelf} (hin : ShIn w1 w1.heap.size PX px QX qx s') (h1 : OffL p PX s'.pairs) (h2 : OffL p QX s'.queue)
    {n m : Nat} (hn : n = s'.pairs.length) (hm : m = s'.queue.length) : VarI ((w1.setCell ⟨p, 0, none⟩ (.slice PX n px)).setCell ⟨p, 1, none⟩ (.slice QX m qx)) p PX px QX qx s' := by
  subst hn
  subst hm
  have e1 := heap_setCell_same w1 p 0 _ _ (.slice PX s'.pairs.length px) hrow
  refine ⟨?_, ?_, h1, h2⟩
  · rw [heap_setCell_same _ p 1 _ _ (.slice QX s'.queue.length qx) e1]
    rfl
  · have := (hin.offCell h1 h2 0 (.slice PX s'.pairs.length px)).offCell h1 h2 1 (.slice QX s'.queue.length qx)
    simpa using this
set_option maxHeartbeats 4000000 in
set_option maxRecDepth 100000 in
theorem idealWaits_any (s : Shelf) (PA : Option Addr) (pc : Nat) (QA : Option Addr) (qc : Nat) (v : ByteArray) (w : World) (h : ShIn w w.heap.size PA pc QA qc s) :
    Calls Try.prog 10 #[.agg #[.slice PA s.pairs.length pc, .slice QA s.queue.length qc], .string v] w fun e w' => e = .returned (.bool true) ∧ Below w.heap.size w w' := by
  have H := hid h
  have hplen := h.plen
  have hpmax := h.pmax
  have hqlen := h.qlen
  have hqmax := h.qmax
  clear h
  have bw1 : Below w.heap.size w ((w.alloc (.cells #[.slice PA s.pairs.length pc, .slice QA s.queue.length qc] 41)).alloc (.cells #[.int .i64 4, .string ByteArray.empty, .string v, .string ByteArray.empty, .slice none 0 0] 50)) := (by repeat (first | exact Below.refl _ _ | assumption | refine Below.drew ?_ | refine below_drewN ?_ _ | refine Below.alloc ?_ (by first | omega | (simp; done) | (simp; omega)) _ | refine Below.setCell ?_ (by first | omega | (simp; done) | (simp; omega)) _))
  have HCB := hid (show ∀ W, CallIn W W.heap.size (enqC v) [] from fun W => ⟨Arr.nil, rfl, by simp [enqC], by simp [enqC]⟩)
  have HCD := hid (show ∀ W, CallIn W W.heap.size deqC [] from fun W => ⟨Arr.nil, rfl, by simp [deqC], by simp [deqC]⟩)
  go_enter Try.func10, Try.ntmps10
  go_wp2_with fail
  refine (large_any s PA pc QA qc (enqC v) [] _ (in_below H.out bw1) (HCB.out _)).mono ?_
  rintro e w2 ⟨r, rfl, hb2, hsm⟩
  have X0 : w.heap.size < w2.heap.size ∧ w2.cell? ⟨w.heap.size, 0, none⟩ = some (.slice PA s.pairs.length pc) ∧ w2.cell? ⟨w.heap.size, 1, none⟩ = some (.slice QA s.queue.length qc) := carry2 hb2 ⟨by simp; omega, by simp [go_sem], by simp [go_sem]⟩
  have X1 : w.heap.size + 1 < w2.heap.size ∧ w2.cell? ⟨w.heap.size + 1, 0, none⟩ = some (.int .i64 4) ∧ w2.cell? ⟨w.heap.size + 1, 1, none⟩ = some (.string ByteArray.empty) ∧ w2.cell? ⟨w.heap.size + 1, 2, none⟩ = some (.string v) ∧ w2.cell? ⟨w.heap.size + 1, 3, none⟩ = some (.string ByteArray.empty) ∧ w2.cell? ⟨w.heap.size + 1, 4, none⟩ = some (.slice none 0 0) := carry5 hb2 ⟨by simp, by simp [go_sem], by simp [go_sem], by simp [go_sem], by simp [go_sem], by simp [go_sem]⟩
  have bw2 : Below w.heap.size w w2 := bw1.trans (hb2.mono bw1.size)
  clear hb2 bw1
  cases r with
  | true =>
    clear hsm X1
    go_wp2_with fail
    (refine (awake15 _).mono ?_; rintro e wZ ⟨rfl, hbZ⟩; go_wp2; go_ret; exact ⟨rfl, bw2.trans (Below.trans (b := _) (by repeat (first | exact Below.refl _ _ | assumption | refine Below.drew ?_ | refine below_drewN ?_ _ | refine Below.alloc ?_ (by first | omega | (simp; done) | (simp; omega)) _ | refine Below.setCell ?_ (by first | omega | (simp; done) | (simp; omega)) _)) (hbZ.mono (by first | exact bw2.size | (simp; have := bw2.size; omega))))⟩)
  | false =>
  have HS := hid (hsm rfl)
  clear hsm
  by_cases hv : (v.size : Int) ≤ 400
  case neg =>
    have hv' : (400 : Int) < (v.size : Int) := by omega
    go_wp2_with fail
    (refine (awake15 _).mono ?_; rintro e wZ ⟨rfl, hbZ⟩; go_wp2; go_ret; exact ⟨rfl, bw2.trans (Below.trans (b := _) (by repeat (first | exact Below.refl _ _ | assumption | refine Below.drew ?_ | refine below_drewN ?_ _ | refine Below.alloc ?_ (by first | omega | (simp; done) | (simp; omega)) _ | refine Below.setCell ?_ (by first | omega | (simp; done) | (simp; omega)) _)) (hbZ.mono (by first | exact bw2.size | (simp; have := bw2.size; omega))))⟩)
  have hsp := HS.out.pairs
  have hsq := HS.out.queue
  go_wp2_with fail
  refine (apply_flat s PA pc QA qc (enqC v) [] _ (in_below H.out bw2) (by omega) (by omega) (HCB.out _) (good_enq hv) (by simp [enqC]) (by simp [enqC])).mono ?_
  rw [show doS (enqC v) s = ⟨s.pairs, s.queue ++ [v]⟩ by simp [doS, enqC], show doA (enqC v) s (ans0 0) = ans0 0 by simp [doA, enqC]]
  rintro e w3 ⟨PX, px, QX, qx, RX, rx, HX, hx, rfl, hownX, -, -, hb3⟩
  have hX02 := X0.1
  have st3 : Below w2.heap.size w2 w3 := Below.trans (by repeat (first | exact Below.refl _ _ | assumption | refine Below.drew ?_ | refine below_drewN ?_ _ | refine Below.alloc ?_ (by first | omega | (simp; done) | (simp; omega)) _ | refine Below.setCell ?_ (by first | omega | (simp; done) | (simp; omega)) _)) (hb3.mono (show w2.heap.size ≤ _ from (by first | omega | (simp; done) | (simp; omega)))); have bw3 : Below w.heap.size w w3 := bw2.trans (st3.mono bw2.size); clear hb3
  replace X0 := carry2 st3 X0
  have HX03 := hid X0
  have HB3 := hid bw3
  clear X1
  have HXO := hid hownX
  have hxl := hownX.pairs.len
  have hxm := hownX.pairs.max
  clear hownX
  have hqe : ((s.queue.length : Int) + 1 != (s.queue.length : Int) + 1) = false := by simp
  go_wp2_with fail
  refine (same_pairs s.pairs PX PA px pc _ ?_ ?_ hxl hxm hplen hpmax).mono ?_
  · exact ((HXO.out.pairs.arr Pair.enc_len).below (show Below w3.heap.size w3 _ from (by repeat (first | exact Below.refl _ _ | assumption | refine Below.drew ?_ | refine below_drewN ?_ _ | refine Below.alloc ?_ (by first | omega | (simp; done) | (simp; omega)) _ | refine Below.setCell ?_ (by first | omega | (simp; done) | (simp; omega)) _)))).more (by first | omega | (simp; done) | (simp; omega))
  · exact (H.out.pairs.below (bw3.trans (show Below w.heap.size w3 _ from (by repeat (first | exact Below.refl _ _ | assumption | refine Below.drew ?_ | refine below_drewN ?_ _ | refine Below.alloc ?_ (by first | omega | (simp; done) | (simp; omega)) _ | refine Below.setCell ?_ (by first | omega | (simp; done) | (simp; omega)) _))))).more (bw3.trans (show Below w.heap.size w3 _ from (by repeat (first | exact Below.refl _ _ | assumption | refine Below.drew ?_ | refine below_drewN ?_ _ | refine Below.alloc ?_ (by first | omega | (simp; done) | (simp; omega)) _ | refine Below.setCell ?_ (by first | omega | (simp; done) | (simp; omega)) _)))).size
  rintro e w4 ⟨rfl, hb4⟩
  have HV0 := hid (show VarI w4 w3.heap.size PX px QX qx ⟨s.pairs, (s.queue ++ [v]).drop 0⟩ from
    ⟨(hb4.block _ (by simp; omega)).trans (by rw [heap_alloc_if, if_neg (by simp), heap_alloc_if, if_pos rfl]; simp), in_below HXO.out.in_ (Below.trans (b := _) (by repeat (first | exact Below.refl _ _ | assumption | refine Below.drew ?_ | refine below_drewN ?_ _ | refine Below.alloc ?_ (by first | omega | (simp; done) | (simp; omega)) _ | refine Below.setCell ?_ (by first | omega | (simp; done) | (simp; omega)) _)) (hb4.mono (show w3.heap.size ≤ _ from (by first | omega | (simp; done) | (simp; omega))))), HXO.out.pairs.off (.inr (Nat.le_refl _)), HXO.out.queue.off (.inr (Nat.le_refl _))⟩)
  have st4 : Below w3.heap.size w3 w4 := Below.trans (by repeat (first | exact Below.refl _ _ | assumption | refine Below.drew ?_ | refine below_drewN ?_ _ | refine Below.alloc ?_ (by first | omega | (simp; done) | (simp; omega)) _ | refine Below.setCell ?_ (by first | omega | (simp; done) | (simp; omega)) _)) (hb4.mono (show w3.heap.size ≤ _ from (by first | omega | (simp; done) | (simp; omega)))); have bw4 : Below w.heap.size w w4 := bw3.trans (st4.mono bw3.size); clear hb4
  replace X0 := carry2 st4 X0
  go_wp2_with fail
  have HST4 := hid st4
  clear X0 st3 st4 bw2 bw3 bw4 hqe
  go_loopw [8] (fun vi wr => ∃ (k : Nat) (P : Option Addr) (pc' : Nat) (Q : Option Addr) (qc' : Nat), k ≤ s.queue.length + 1 ∧ vi = .int .i64 k ∧ Below w3.heap.size w3 wr ∧ VarI wr w3.heap.size P pc' Q qc' ⟨s.pairs, (s.queue ++ [v]).drop k⟩) (fun vi _ => s.queue.length + 1 - (intOf vi).toNat)
  case atStart => exact ⟨0, PX, px, QX, qx, Nat.zero_le _, rfl, HST4.out, HV0.out⟩
  case round =>
    obtain ⟨k, P, pc', Q, qc', hkl, rfl, hb, hv⟩ := hrel
    obtain ⟨S, hS⟩ : ∃ S, S = (⟨s.pairs, (s.queue ++ [v]).drop k⟩ : Shelf) := ⟨_, rfl⟩
    rw [← hS] at hv
    have HS2 := hid hS
    have HV := hid hv
    have HBR := hid hb
    have Z := hv.cells
    have f0 := frozen_of_row wr _ 0 _ _ hv.row
    have f1 := frozen_of_row wr _ 1 _ _ hv.row
    have hSp : S.pairs.length ≤ 100000 := by rw [hS]; simp only; omega
    have hSq : S.queue.length ≤ 100000 := by rw [hS]; simp only [List.length_drop, List.length_append, List.length_cons, List.length_nil]; omega
    have bwr : Below w.heap.size w wr := HB3.out.trans (hb.mono HB3.out.size)
    have X0 := carry2 hb HX03.out
    clear hv hb
    by_cases hlt : k ≤ s.queue.length
    · have hle : decide (k ≤ s.queue.length) = true := by simpa using hlt
      obtain ⟨want, hwant⟩ : ∃ want, want = if h : k < s.queue.length then s.queue[k] else v := ⟨_, rfl⟩
      have hdrop : (s.queue ++ [v]).drop k = want :: (s.queue ++ [v]).drop (k + 1) := by
        rw [List.drop_eq_getElem_cons (by simp; omega)]
        congr 1
        rw [hwant]
        by_cases h : k < s.queue.length
        · rw [dif_pos h, List.getElem_append_left h]
        · rw [dif_neg h, List.getElem_append_right (by omega)]; simp
      have hSqe : S.queue = want :: (s.queue ++ [v]).drop (k + 1) := by rw [hS, hdrop]
      have HSQ := hid hSqe
      have HW := hid hwant
      clear hdrop hSqe hwant hS
      go_wp2_with fail
      refine (apply_flat S P pc' Q qc' deqC [] _ HV.out.sh hSp hSq (HCD.out _) good_deq (by simp [deqC]) (by simp [deqC])).mono ?_
      rw [show doS deqC S = ⟨s.pairs, (s.queue ++ [v]).drop (k + 1)⟩ by simp [doS, deqC, HS2.out], show doA deqC S (ans0 0) = { ans0 0 with value := want, found := true } by simp [doA, deqC, HSQ.out]]
      rintro e w5 ⟨PY, py, QY, qy, RY, ry, HY, hy, rfl, hownY, -, -, hb5⟩
      have X0 := carry2 hb5 X0
      have hrow5 := (hb5.block _ HV.out.lt).trans HV.out.row
      have hltv := HV.out.lt
      have hs5 := hb5.size
      have HB5 := hid (HBR.out.trans (hb5.mono (show w3.heap.size ≤ _ by omega)))
      have bw5 := bwr.trans (hb5.mono bwr.size)
      have g0 := frozen_of_row w5 _ 0 _ _ hrow5
      have g1 := frozen_of_row w5 _ 1 _ _ hrow5
      have k0 := cell_of_row w5 _ 0 _ _ _ hrow5
      have k1 := cell_of_row w5 _ 1 _ _ _ hrow5
      have hl5 : w3.heap.size < w5.heap.size := by omega
      have HNEW := hid (fun (o1 o2 : Obj) (m : Nat) (hm : m = ((s.queue ++ [v]).drop (k + 1)).length) => show VarI ((((w5.setCell ⟨w3.heap.size, 0, none⟩ (.slice PY s.pairs.length py)).setCell ⟨w3.heap.size, 1, none⟩ (.slice QY m qy)).alloc o1).alloc o2) w3.heap.size PY py QY qy ⟨s.pairs, (s.queue ++ [v]).drop (k + 1)⟩ from
        (VarI.put hrow5 hownY.in_ (hownY.pairs.off (.inl (by omega))) (hownY.queue.off (.inl (by omega))) rfl hm).keep (((Below.refl _ _).alloc (Nat.le_refl _) _).alloc (by simp) _))
      clear hrow5 hownY hb5 Z f0 f1
      by_cases hlt2 : k < s.queue.length
      · have hw2 : want = s.queue[k] := by rw [HW.out, dif_pos hlt2]
        obtain ⟨b, off, rfl, hB, q0⟩ := (H.out.queue.below bw5).txt1 hlt2
        rw [← hw2] at q0
        have hb5' : b < w5.heap.size := Nat.lt_of_lt_of_le hB bw5.size
        have hlti : (k : Int) < (s.queue.length : Int) := by omega
        clear hw2
        go_wp2_with fail
        have hb5'' := HB5.out
        refine ⟨⟨k + 1, PY, py, QY, qy, by omega, by go_num, ?_, HNEW.out _ _ _ (by simp)⟩, by simp [intOf]; omega⟩
        exact (((hb5''.setCell (Nat.le_refl _) _).setCell (Nat.le_refl _) _).alloc (by simp; omega) _).alloc (by simp; omega) _
      · have hw2 : want = v := by rw [HW.out, dif_neg hlt2]
        subst hw2
        go_wp2_with fail
        have hb5'' := HB5.out
        refine ⟨⟨k + 1, PY, py, QY, qy, by omega, by go_num, ?_, HNEW.out _ _ _ (by simp)⟩, by simp [intOf]; omega⟩
        exact (((hb5''.setCell (Nat.le_refl _) _).setCell (Nat.le_refl _) _).alloc (by simp; omega) _).alloc (by simp; omega) _
    · have hle : decide (k ≤ s.queue.length) = false := by simpa using hlt
      have hSqe : S.queue = [] := by rw [hS]; simp only; exact List.drop_of_length_le (by simp; omega)
      have HSQ := hid hSqe
      clear hSqe hS
      go_wp2_with fail
      refine (apply_flat S P pc' Q qc' deqC [] _ HV.out.sh hSp hSq (HCD.out _) good_deq (by simp [deqC]) (by simp [deqC])).mono ?_
      rw [show doA deqC S (ans0 0) = ⟨0, false, ByteArray.empty, [], []⟩ by simp [doA, deqC, HSQ.out, ans0]]
      rintro e w5 ⟨PY, py, QY, qy, RY, ry, HY, hy, rfl, -, -, -, hb5⟩
      replace Z := carry2 hb5 Z
      have bw5 := bwr.trans (hb5.mono bwr.size)
      have hzq : S.queue.length = 0 := by rw [HSQ.out]; rfl
      rw [hzq] at Z
      have hE : ByteArray.empty.toList.isEmpty = true := by rw [Lib.toList_data]; rfl
      have hsz5 := bw5.size
      clear hzq f0 f1
      go_wp2_with fail
      (refine (awake15 _).mono ?_; rintro e wZ ⟨rfl, hbZ⟩; go_wp2; go_ret; exact ⟨rfl, bw5.trans (Below.trans (b := _) (by repeat (first | exact Below.refl _ _ | assumption | refine Below.drew ?_ | refine below_drewN ?_ _ | refine Below.alloc ?_ (by first | omega | (simp; done) | (simp; omega)) _ | refine Below.setCell ?_ (by first | omega | (simp; done) | (simp; omega)) _)) (hbZ.mono (by first | exact bw5.size | (simp; have := bw5.size; omega))))⟩)
end Go.Proofs.Ythpegmeebhkhbaa
