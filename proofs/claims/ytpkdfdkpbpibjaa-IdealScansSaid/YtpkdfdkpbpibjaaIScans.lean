/- The statement IdealScans: the walk. -/
import Derived.Test.YtpkdfdkpbpibjaaIPuts
import Derived.Test.YtpkdfdkpbpibjaaSame
import Derived.Laws.StructEq
namespace Go.Proofs.Ytpkdfdkpbpibjaa
open Go.RowKit

def scanC (f t : ByteArray) : Call0 := ⟨6, f, ByteArray.empty, t, none, 0, 0⟩
theorem empty_toList : ByteArray.empty.toList = [] := by rw [Lib.toList_data]; rfl
theorem inR_low {lo hi : ByteArray} {x : Pair} (h : kl x.key lo = true) : inR lo hi x = false := by
  have : ¬ (0 ≤ cmpB x.key lo) := by rw [cmpB_kl, if_pos h]; omega
  simp [inR, this]
theorem inR_all {lo hi : ByteArray} {x : Pair} (h : kl x.key lo = false) (ht : hi.toList = []) : inR lo hi x = true := by
  have : 0 ≤ cmpB x.key lo := by rw [cmpB_kl, h]; simp only [Bool.false_eq_true, if_false]; split <;> omega
  have ht' : hi.toList = ByteArray.empty.toList := by rw [ht, empty_toList]
  simp [inR, this, ht']
theorem inR_high {lo hi : ByteArray} {x : Pair} (ht : hi.toList ≠ []) (h : kl x.key hi = false) : inR lo hi x = false := by
  have h1 : ¬ (cmpB x.key hi < 0) := by rw [cmpB_kl, h]; simp only [Bool.false_eq_true, if_false]; split <;> omega
  have ht' : ¬ hi.toList = ByteArray.empty.toList := by rw [empty_toList]; exact ht
  simp [inR, h1, ht, ht']
theorem inR_in {lo hi : ByteArray} {x : Pair} (h : kl x.key lo = false) (h2 : kl x.key hi = true) : inR lo hi x = true := by
  have h1 : 0 ≤ cmpB x.key lo := by rw [cmpB_kl, h]; simp only [Bool.false_eq_true, if_false]; split <;> omega
  have h3 : cmpB x.key hi < 0 := by rw [cmpB_kl, if_pos h2]; omega
  simp [inR, h1, h3]
theorem scanned_at {lo hi : ByteArray} {l : List Pair} {k : Nat} (hk : k < l.length) (h : inR lo hi l[k] = true) :
    ∃ hlt : (scanned lo hi (l.take k)).length < (scanned lo hi l).length, (scanned lo hi l)[(scanned lo hi (l.take k)).length] = l[k] := by
  have e : scanned lo hi l = scanned lo hi (l.take k) ++ (l[k] :: scanned lo hi (l.drop (k + 1))) := by
    conv => lhs; rw [← List.take_append_drop k l, List.drop_eq_getElem_cons hk]
    rw [scanned, List.filter_append, List.filter_cons, if_pos h]
    rfl
  refine ⟨by rw [e]; simp, ?_⟩
  simp only [e]
  rw [List.getElem_append_right (Nat.le_refl _)]
  simp
set_option maxHeartbeats 4000000 in
set_option maxRecDepth 100000 in
theorem idealScans_any (s : Shelf) (PA : Option Addr) (pc : Nat) (QA : Option Addr) (qc : Nat) (f t : ByteArray) (w : World) (h : ShIn w w.heap.size PA pc QA qc s) :
    Calls Try.prog 14 #[.agg #[.slice PA s.pairs.length pc, .slice QA s.queue.length qc], .string f, .string t] w fun e w' => e = .returned (.bool true) ∧ Below w.heap.size w w' := by
  have H := hid h
  have hplen := h.plen
  have hpmax := h.pmax
  have hqlen := h.qlen
  have hqmax := h.qmax
  clear h
  have bw1 : Below w.heap.size w ((w.alloc (.cells #[.slice PA s.pairs.length pc, .slice QA s.queue.length qc] 41)).alloc (.cells #[.int .i64 6, .string f, .string ByteArray.empty, .string t, .slice none 0 0] 50)) := (by repeat (first | exact Below.refl _ _ | assumption | refine Below.drew ?_ | refine below_drewN ?_ _ | refine Below.alloc ?_ (by first | omega | (simp; done) | (simp; omega)) _ | refine Below.setCell ?_ (by first | omega | (simp; done) | (simp; omega)) _))
  have CB : ∀ W, CallIn W W.heap.size (scanC f t) [] := fun W => ⟨Arr.nil, rfl, by simp [scanC], by simp [scanC]⟩
  have HCB := hid CB
  clear CB
  go_enter Try.func14, Try.ntmps14
  go_wp2_with fail
  refine (large_any s PA pc QA qc (scanC f t) [] _ (in_below (W' := w) H.out bw1) (HCB.out _)).mono ?_
  rintro e w2 ⟨r, rfl, hb2, hsm⟩
  have X0 : w.heap.size < w2.heap.size ∧ w2.cell? ⟨w.heap.size, 0, none⟩ = some (.slice PA s.pairs.length pc) ∧ w2.cell? ⟨w.heap.size, 1, none⟩ = some (.slice QA s.queue.length qc) := carry2 hb2 ⟨by simp; omega, by simp [go_sem], by simp [go_sem]⟩
  have X1 : w.heap.size + 1 < w2.heap.size ∧ w2.cell? ⟨w.heap.size + 1, 0, none⟩ = some (.int .i64 6) ∧ w2.cell? ⟨w.heap.size + 1, 1, none⟩ = some (.string f) ∧ w2.cell? ⟨w.heap.size + 1, 2, none⟩ = some (.string ByteArray.empty) ∧ w2.cell? ⟨w.heap.size + 1, 3, none⟩ = some (.string t) ∧ w2.cell? ⟨w.heap.size + 1, 4, none⟩ = some (.slice none 0 0) := carry5 hb2 ⟨by simp, by simp [go_sem], by simp [go_sem], by simp [go_sem], by simp [go_sem], by simp [go_sem]⟩
  have bw2 : Below w.heap.size w w2 := bw1.trans (hb2.mono bw1.size)
  clear hb2 bw1
  cases r with
  | true =>
    clear hsm X1
    go_wp2_with fail
    (refine (awake15 _).mono ?_; rintro e wZ ⟨rfl, hbZ⟩; go_wp2; go_ret; exact ⟨rfl, bw2.trans (Below.trans (b := _) (by repeat (first | exact Below.refl _ _ | assumption | refine Below.drew ?_ | refine below_drewN ?_ _ | refine Below.alloc ?_ (by first | omega | (simp; done) | (simp; omega)) _ | refine Below.setCell ?_ (by first | omega | (simp; done) | (simp; omega)) _)) (hbZ.mono (by first | exact bw2.size | (simp; have := bw2.size; omega))))⟩)
  | false =>
  have HS := hid (hsm rfl)
  clear hsm
  go_wp2_with fail
  refine (may_any s PA pc QA s.queue.length qc _ (in_below (W' := w) H.out bw2).pairs hplen hpmax).mono ?_
  rintro e w3 ⟨rfl, hb3⟩
  have st3 : Below w2.heap.size w2 w3 := Below.trans (by repeat (first | exact Below.refl _ _ | assumption | refine Below.drew ?_ | refine below_drewN ?_ _ | refine Below.alloc ?_ (by first | omega | (simp; done) | (simp; omega)) _ | refine Below.setCell ?_ (by first | omega | (simp; done) | (simp; omega)) _)) (hb3.mono (show w2.heap.size ≤ _ from (by first | omega | (simp; done) | (simp; omega)))); have bw3 : Below w.heap.size w w3 := bw2.trans (st3.mono bw2.size); clear hb3
  replace X0 := carry2 st3 X0
  replace X1 := carry5 st3 X1
  cases hmay : mayB s.pairs with
  | false =>
    clear hmay
    go_wp2_with fail
    (refine (awake15 _).mono ?_; rintro e wZ ⟨rfl, hbZ⟩; go_wp2; go_ret; exact ⟨rfl, bw3.trans (Below.trans (b := _) (by repeat (first | exact Below.refl _ _ | assumption | refine Below.drew ?_ | refine below_drewN ?_ _ | refine Below.alloc ?_ (by first | omega | (simp; done) | (simp; omega)) _ | refine Below.setCell ?_ (by first | omega | (simp; done) | (simp; omega)) _)) (hbZ.mono (by first | exact bw3.size | (simp; have := bw3.size; omega))))⟩)
  | true =>
  clear hmay
  go_wp2_with fail
  refine (good_any (scanC f t) [] _ (HCB.out _)).mono ?_
  rintro e w4 ⟨rfl, hb4⟩
  have st4 : Below w3.heap.size w3 w4 := Below.trans (by repeat (first | exact Below.refl _ _ | assumption | refine Below.drew ?_ | refine below_drewN ?_ _ | refine Below.alloc ?_ (by first | omega | (simp; done) | (simp; omega)) _ | refine Below.setCell ?_ (by first | omega | (simp; done) | (simp; omega)) _)) (hb4.mono (show w3.heap.size ≤ _ from (by first | omega | (simp; done) | (simp; omega)))); have bw4 : Below w.heap.size w w4 := bw3.trans (st4.mono bw3.size); clear hb4
  replace X0 := carry2 st4 X0
  replace X1 := carry5 st4 X1
  by_cases hg : goodI (scanC f t) [] = 0
  case neg =>
    rcases goodI_bit (scanC f t) [] with hg1 | hg1 | hg1
    · exact absurd hg1 hg
    all_goals
      rw [hg1]
      clear hg hg1
      go_wp2_with fail
      (refine (awake15 _).mono ?_; rintro e wZ ⟨rfl, hbZ⟩; go_wp2; go_ret; exact ⟨rfl, bw4.trans (Below.trans (b := _) (by repeat (first | exact Below.refl _ _ | assumption | refine Below.drew ?_ | refine below_drewN ?_ _ | refine Below.alloc ?_ (by first | omega | (simp; done) | (simp; omega)) _ | refine Below.setCell ?_ (by first | omega | (simp; done) | (simp; omega)) _)) (hbZ.mono (by first | exact bw4.size | (simp; have := bw4.size; omega))))⟩)
  rw [hg]
  have HG := hid hg
  clear hg
  go_wp2_with fail
  refine (apply_flat s PA pc QA qc (scanC f t) [] _ (in_below (W' := w) H.out bw4) (by have := HS.out.pairs; omega) (by have := HS.out.queue; omega) (HCB.out _) HG.out (by simp [scanC]) (by simp [scanC])).mono ?_
  rw [show doS (scanC f t) s = s by simp [doS, scanC], show doA (scanC f t) s (ans0 0) = { ans0 0 with pairs := scanned f t s.pairs } by simp [doA, scanC, ans0]]
  rintro e w5 ⟨PX, px, QX, qx, RX, rx, HX, hx, rfl, hownX, hownR, -, hb5⟩
  have st5 : Below w4.heap.size w4 w5 := Below.trans (by repeat (first | exact Below.refl _ _ | assumption | refine Below.drew ?_ | refine below_drewN ?_ _ | refine Below.alloc ?_ (by first | omega | (simp; done) | (simp; omega)) _ | refine Below.setCell ?_ (by first | omega | (simp; done) | (simp; omega)) _)) (hb5.mono (show w4.heap.size ≤ _ from (by first | omega | (simp; done) | (simp; omega)))); have bw5 : Below w.heap.size w w5 := bw4.trans (st5.mono bw4.size); clear hb5
  replace X0 := carry2 st5 X0
  clear X1
  obtain ⟨R, hR⟩ : ∃ R, R = scanned f t s.pairs := ⟨_, rfl⟩
  have HR := hid hR
  have hownR : Own Pair.enc 81 2 w5 w4.heap.size RX rx R := by rw [hR]; exact hownR
  rw [show (scanned f t s.pairs).length = R.length by rw [hR]]
  have HRX := hid hownR
  have hrl := hownR.len
  have hrm := hownR.max
  have HXO := hid hownX
  clear hR hownX hownR
  have X0 : w.heap.size < w5.heap.size ∧ w5.cell? ⟨w.heap.size, 0, none⟩ = some (.slice PA s.pairs.length pc) ∧ w5.cell? ⟨w.heap.size, 1, none⟩ = some (.slice QA s.queue.length qc) := X0
  obtain ⟨W6, hW6⟩ : ∃ W6, W6 = (w5.alloc (.cells #[.slice PX s.pairs.length px, .slice QX s.queue.length qx] 41)).alloc (.cells #[.int .i64 0, .bool false, .string ByteArray.empty, .slice RX R.length rx, .slice HX 0 hx, .int .u64 0] 59) := ⟨_, rfl⟩
  have B6 : Below w5.heap.size w5 W6 := by rw [hW6]; exact (by repeat (first | exact Below.refl _ _ | assumption | refine Below.drew ?_ | refine below_drewN ?_ _ | refine Below.alloc ?_ (by first | omega | (simp; done) | (simp; omega)) _ | refine Below.setCell ?_ (by first | omega | (simp; done) | (simp; omega)) _))
  have Y0 := carry2 B6 X0
  have X2 : w5.heap.size < W6.heap.size ∧ W6.cell? ⟨w5.heap.size, 0, none⟩ = some (.slice PX s.pairs.length px) ∧ W6.cell? ⟨w5.heap.size, 1, none⟩ = some (.slice QX s.queue.length qx) := by rw [hW6]; exact ⟨by simp; omega, by simp [go_sem], by simp [go_sem]⟩
  have X3 : w5.heap.size + 1 < W6.heap.size ∧ W6.cell? ⟨w5.heap.size + 1, 3, none⟩ = some (.slice RX R.length rx) := by rw [hW6]; exact ⟨by simp, by simp [go_sem]⟩
  have HB6 := hid B6
  have HY0 := hid Y0
  have HX2 := hid X2
  have HX3 := hid X3
  have HW6 := hid hW6
  clear B6 Y0 X2 X3 hW6
  go_wp2_with fail
  go_loopw [10, 11] (fun vn vi wr => ∃ k : Nat, k ≤ s.pairs.length ∧ vi = .int .i64 k ∧ vn = .int .i64 (scanned f t (s.pairs.take k)).length ∧ Below W6.heap.size W6 wr) (fun _ vi _ => s.pairs.length - (intOf vi).toNat)
  case atStart => exact ⟨0, Nat.zero_le _, rfl, by simp [scanned], by rw [HW6.out]; exact Below.refl _ _⟩
  case round =>
    obtain ⟨k, hkl, rfl, rfl, hb⟩ := hrel
    obtain ⟨M, hM⟩ : ∃ M, M = (scanned f t (s.pairs.take k)).length := ⟨_, rfl⟩
    have HM := hid hM
    rw [← hM]
    clear hM X0
    have X0 := carry2 hb HY0.out
    have X2 := carry2 hb HX2.out
    have X3 := carry1 hb HX3.out
    have bw6 : Below w.heap.size w wr := bw5.trans ((HB6.out.trans (hb.mono HB6.out.size)).mono bw5.size)
    have HBR := hid hb
    clear hb
    have hMl : M ≤ 100 := by have := scanned_len f t (s.pairs.take k); have := HS.out.pairs; rw [HM.out]; rw [List.length_take] at *; omega
    by_cases hlt : k < s.pairs.length
    · obtain ⟨b, off, rfl, hB, k0, k1⟩ := (H.out.pairs.below bw6).pair hlt
      have hbr : b < wr.heap.size := Nat.lt_of_lt_of_le hB bw6.size
      cases t1 : kl s.pairs[k].key f with
      | true =>
        have t1' : Op.bytesLess s.pairs[k].key.toList f.toList = true := t1
        have HN := hid (show M = (scanned f t (s.pairs.take (k + 1))).length by rw [scanned_succ hlt, inR_low t1, HM.out]; simp)
        clear t1
        go_wp2_with fail
        exact ⟨⟨k + 1, by omega, by go_num, by rw [← HN.out], HBR.out.alloc (by exact HBR.out.size) _⟩, by simp [intOf]; omega⟩
      | false =>
      have t1' : Op.bytesLess s.pairs[k].key.toList f.toList = false := t1
      by_cases t2 : t.toList = []
      · have hin : inR f t s.pairs[k] = true := inR_all t1 t2
        have t2' : t.toList.isEmpty = true := by rw [t2]; rfl
        obtain ⟨hMlt, hMat⟩ := scanned_at hlt hin
        have HN := hid (show M + 1 = (scanned f t (s.pairs.take (k + 1))).length by rw [scanned_succ hlt, hin, HM.out]; simp)
        have hMR : M < R.length := by rw [HR.out, HM.out]; exact hMlt
        have hRM : R[M] = s.pairs[k] := by
          have := hMat
          simp only [← HM.out, ← HR.out] at this
          exact this
        obtain ⟨b2, off2, rfl, hB2, r0, r1⟩ := ((HRX.out.arr Pair.enc_len).below (HB6.out.trans (HBR.out.mono HB6.out.size))).pair hMR
        have hbr2 : b2 < wr.heap.size := by have := HB6.out.size; have := HBR.out.size; omega
        rw [hRM] at r0 r1
        have hge : decide (R.length ≤ M) = false := by simpa using hMR
        have hMi : (M : Int) < (R.length : Int) := by omega
        clear t1 hin hMlt hMat hRM
        go_wp2_with fail
        go_quiet (fail)
        go_wp2_with fail
        exact ⟨⟨k + 1, by omega, by go_num, by rw [← HN.out]; go_num, below_drewN (HBR.out.alloc (by exact HBR.out.size) _) _⟩, by simp [intOf]; omega⟩
      · cases t3 : kl s.pairs[k].key t with
        | false =>
          have t2' : t.toList.isEmpty = false := by simpa using t2
          have t3' : Op.bytesLess s.pairs[k].key.toList t.toList = false := t3
          have HN := hid (show M = (scanned f t (s.pairs.take (k + 1))).length by rw [scanned_succ hlt, inR_high t2 t3, HM.out]; simp)
          clear t1 t2 t3
          go_wp2_with fail
          exact ⟨⟨k + 1, by omega, by go_num, by rw [← HN.out], HBR.out.alloc (by exact HBR.out.size) _⟩, by simp [intOf]; omega⟩
        | true =>
          have t2' : t.toList.isEmpty = false := by simpa using t2
          have t3' : Op.bytesLess s.pairs[k].key.toList t.toList = true := t3
          have hin : inR f t s.pairs[k] = true := inR_in t1 t3
          obtain ⟨hMlt, hMat⟩ := scanned_at hlt hin
          have HN := hid (show M + 1 = (scanned f t (s.pairs.take (k + 1))).length by rw [scanned_succ hlt, hin, HM.out]; simp)
          have hMR : M < R.length := by rw [HR.out, HM.out]; exact hMlt
          have hRM : R[M] = s.pairs[k] := by
            have := hMat
            simp only [← HM.out, ← HR.out] at this
            exact this
          obtain ⟨b2, off2, rfl, hB2, r0, r1⟩ := ((HRX.out.arr Pair.enc_len).below (HB6.out.trans (HBR.out.mono HB6.out.size))).pair hMR
          have hbr2 : b2 < wr.heap.size := by have := HB6.out.size; have := HBR.out.size; omega
          rw [hRM] at r0 r1
          have hge : decide (R.length ≤ M) = false := by simpa using hMR
          have hMi : (M : Int) < (R.length : Int) := by omega
          clear t1 t2 t3 hin hMlt hMat hRM
          go_wp2_with fail
          go_quiet (fail)
          go_wp2_with fail
          exact ⟨⟨k + 1, by omega, by go_num, by rw [← HN.out]; go_num, below_drewN (HBR.out.alloc (by exact HBR.out.size) _) _⟩, by simp [intOf]; omega⟩
    · have HN := hid (show M = R.length by rw [HM.out, HR.out, List.take_of_length_le (by omega)])
      have hMR : ((M : Int) == (R.length : Int)) = true := by rw [beq_iff_eq, HN.out]
      go_wp2_with fail
      refine (same_shelf s PX px QX qx PA pc QA qc _ ?_ (in_below (W' := w) H.out bw6)).mono ?_
      · exact (HXO.out.in_.below (HB6.out.trans (HBR.out.mono HB6.out.size))).more (HB6.out.trans (HBR.out.mono HB6.out.size)).size
      rintro e w7 ⟨rfl, hb7⟩
      have bw7 : Below w.heap.size w w7 := bw6.trans (hb7.mono bw6.size)
      go_wp2_with fail
      (refine (awake15 _).mono ?_; rintro e wZ ⟨rfl, hbZ⟩; go_wp2; go_ret; exact ⟨rfl, bw7.trans (Below.trans (b := _) (by repeat (first | exact Below.refl _ _ | assumption | refine Below.drew ?_ | refine below_drewN ?_ _ | refine Below.alloc ?_ (by first | omega | (simp; done) | (simp; omega)) _ | refine Below.setCell ?_ (by first | omega | (simp; done) | (simp; omega)) _)) (hbZ.mono (by first | exact bw7.size | (simp; have := bw7.size; omega))))⟩)
end Go.Proofs.Ytpkdfdkpbpibjaa
