/- serial.text: a shelf as a text. -/
import Derived.Test.YtamcehfcjcmpmaaDoorSt7
import Derived.Lib.BufferRead
import Derived.Lib.SlBytesRow
namespace Go.Proofs.YtamcehfcjcmpmaaDoor
open Go.RowKit

def pairsL (l : List Pair) : List UInt8 := l.flatMap fun p => txtItem p.key ++ txtItem p.val
def queueL (l : List ByteArray) : List UInt8 := l.flatMap txtItem
def textL (s : Shelf) : List UInt8 := Lib.itoa (s.pairs.length : Int) ++ pairsL s.pairs ++ queueL s.queue
theorem pairsL_succ {l : List Pair} {k : Nat} (hk : k < l.length) : pairsL (l.take (k + 1)) = pairsL (l.take k) ++ txtItem l[k].key ++ txtItem l[k].val := by
  unfold pairsL
  rw [List.take_succ_eq_append_getElem hk, List.flatMap_append]
  simp
theorem queueL_succ {l : List ByteArray} {k : Nat} (hk : k < l.length) : queueL (l.take (k + 1)) = queueL (l.take k) ++ txtItem l[k] := by
  unfold queueL
  rw [List.take_succ_eq_append_getElem hk, List.flatMap_append]
  simp
theorem pairsL_le (l : List Pair) (k : Nat) : (pairsL (l.take k)).length ≤ (pairsL l).length := by
  conv => rhs; rw [← List.take_append_drop k l]
  unfold pairsL
  rw [List.flatMap_append, List.length_append]
  omega
theorem queueL_le (l : List ByteArray) (k : Nat) : (queueL (l.take k)).length ≤ (queueL l).length := by
  conv => rhs; rw [← List.take_append_drop k l]
  unfold queueL
  rw [List.flatMap_append, List.length_append]
  omega
theorem txtItem_size (x : ByteArray) : x.size ≤ (txtItem x).length := by
  have h0 : x.data.toList.length = x.size := Array.length_toList
  simp only [txtItem, bytesOf, List.length_append, List.length_cons, h0]
  omega
theorem convText {w : World} {base : Nat} {v : Value} {l : List UInt8} (h : w.ownsRow base 5 1 v l.length (Lib.byteCells l)) : (convert 105 9 v).run Tryd.prog w = .ok (.string ⟨l.toArray⟩) w := by
  rcases h.2 with ⟨rfl, h0⟩ | ⟨g, cap, cur, rfl, hg, hh, h1, h2, h3, h4⟩
  · have hl : l = [] := List.eq_nil_of_length_eq_zero h0
    subst hl
    exact Lib.run_convert_nil_bytes w _ _ 5 0 Tryd.underlying105 Tryd.underlying5 Tryd.underlying9
  · have hsz : (⟨l.toArray⟩ : ByteArray).size = l.length := by simp [ByteArray.size]
    have hb : Lib.Bytes w g 0 ⟨l.toArray⟩ := fun i hi => by
      have hi' : i < l.length := by omega
      have := Lib.bytes_of_row hh (l := l) (by rw [← h4]; simp) i hi'
      rw [Addr.add_lit] at this
      exact this
    have := Lib.run_convert_whole (P := Tryd.prog) w 105 5 9 Tryd.underlying105 Tryd.underlying5 Tryd.underlying9 g 0 _ hb cap
    rw [hsz] at this
    exact this
def GivesText (s : Shelf) (w : World) (e : Ending) (w' : World) : Prop := ∃ t : ByteArray, e = .returned (.string t) ∧ bytesOf t = textL s ∧ Below w.heap.size w w'
set_option maxHeartbeats 4000000 in
set_option maxRecDepth 100000 in
theorem text_any (s : Shelf) (PA : Option Addr) (pc : Nat) (QA : Option Addr) (qc : Nat) (w : World) (h : ShIn w w.heap.size PA pc QA qc s) (hb : (textL s).length ≤ 10000000) (hp : s.pairs.length ≤ 1000000) (ht : Tab w.heap.size w) :
    Calls Tryd.prog 50 #[.agg #[.slice PA s.pairs.length pc, .slice QA s.queue.length qc]] w (GivesText s w) := by
  have H := hid h
  have HB := hid hb
  have HP := hid hp
  have HT := hid ht
  clear h hb hp ht
  go_enter Tryd.func50, Tryd.ntmps50
  obtain ⟨wa, hwa⟩ : ∃ wa, wa = w.alloc (.cells #[.slice PA s.pairs.length pc, .slice QA s.queue.length qc] 25) := ⟨_, rfl⟩
  have za : wa.heap.size = w.heap.size + 1 := by rw [hwa]; simp
  have ba : Below w.heap.size w wa := by rw [hwa]; exact (Below.refl _ _).alloc (Nat.le_refl _) _
  have T0 := appendInt_any (w.heap.size + 1) 0 (s.pairs.length : Int) (by omega) (by have := HP.out; omega) (.slice none 0 0) [] wa (World.ownsRow_nil wa _ _ _) (by omega) (by omega) (fun w2 h2 => HT.out w2 (ba.trans (h2.mono (by omega))))
  have r0 : wa.heap[w.heap.size]? = some (.cells #[.slice PA s.pairs.length pc, .slice QA s.queue.length qc] 25 (0, 0)) := by rw [hwa]; exact (heap_alloc_if _ _ _).trans (if_pos rfl)
  have a0 := cell_of_row wa _ 0 _ _ _ r0
  have a1 := cell_of_row wa _ 1 _ _ _ r0
  have hla : w.heap.size < wa.heap.size := by omega
  go_upto_region 1 with fail
  rw [← hwa]
  clear hwa
  go_upto_region 2 with (go_at_call 62; refine T0.mono ?_; rintro e w1 ⟨v1, rfl, hown1, hb1, hk1⟩; obtain ⟨A1, d1, rfl⟩ := own_slice hown1; have OW := hid hown1; have BW := hid hb1; clear hown1 hb1 hk1)
  have hown1 := OW.out
  have hb1 := BW.out
  have z1 := hb1.size
  obtain ⟨wb, hwb⟩ : ∃ wb, wb = w1.alloc (.cells #[.slice A1 (Lib.itoa (s.pairs.length : Int)).length d1] 105) := ⟨_, rfl⟩
  rw [← hwb]
  have zb : wb.heap.size = w1.heap.size + 1 := by rw [hwb]; simp
  have bab : Below (w.heap.size + 1) wa wb := by rw [hwb]; exact hb1.alloc (by omega) _
  have bwb : Below w.heap.size w wb := ba.trans (bab.mono (by omega))
  have HBUF : Hid (Buf w1.heap.size (w.heap.size + 1) (Lib.itoa (s.pairs.length : Int)) wb) := hid (by
    rw [hwb]
    have := hown1.alloc (.cells #[.slice A1 (Lib.itoa (s.pairs.length : Int)).length d1] 105)
    exact ⟨⟨_, (heap_alloc_if _ _ _).trans (if_pos rfl), by simpa using this⟩⟩)
  have b0 := (bab.cell (p := ⟨w.heap.size, 0, none⟩) (by simp)).trans a0
  have b1 := (bab.cell (p := ⟨w.heap.size, 1, none⟩) (by simp)).trans a1
  have hlb : w.heap.size < wb.heap.size := by omega
  have HTB := hid (show Tab (w.heap.size + 1) wb from fun w2 h2 => HT.out w2 (bwb.trans (h2.mono (by omega))))
  have HSH := hid (H.out.below bwb)
  have hqb : w.heap.size + 1 ≤ w1.heap.size := by omega
  clear hwb OW BW hown1 hb1 T0 a0 a1 r0 hla
  go_wp2_with fail
  go_loopw [17] (fun v17 wr => ∃ k : Nat, k ≤ s.pairs.length ∧ v17 = .int .i64 k ∧ Below (w.heap.size + 1) wb wr ∧ Hid (Buf w1.heap.size (w.heap.size + 1) (Lib.itoa (s.pairs.length : Int) ++ pairsL (s.pairs.take k)) wr)) (fun v17 _ => s.pairs.length - (intOf v17).toNat)
  case atStart => exact ⟨0, Nat.zero_le _, rfl, Below.refl _ _, by simpa [pairsL] using HBUF⟩
  case round =>
    obtain ⟨k, hkl, rfl, hb, hbuf⟩ := hrel
    have hsz := hb.size
    have hpm := HP.out
    by_cases hlt : k < s.pairs.length
    · obtain ⟨b, off, rfl, hbB, d0, d1⟩ := (HSH.out.pairs.below (hb.mono (by omega))).pair hlt
      have hbr : b < wr.heap.size := by omega
      have hq1 := hsz
      have hle := pairsL_le s.pairs (k + 1)
      rw [pairsL_succ hlt] at hle
      have hx1 := txtItem_size s.pairs[k].key
      have hx2 := txtItem_size s.pairs[k].val
      have hbd := HB.out
      unfold textL at hbd
      simp only [List.length_append] at hle hbd
      obtain ⟨wc, hwc⟩ : ∃ wc, wc = wr.alloc (.cells #[.string s.pairs[k].key, .string s.pairs[k].val] 53) := ⟨_, rfl⟩
      have zc : wc.heap.size = wr.heap.size + 1 := by rw [hwc]; simp
      have bc : Below (w.heap.size + 1) wb wc := by rw [hwc]; exact hb.alloc (by omega) _
      have rc : wc.heap[wr.heap.size]? = some (.cells #[.string s.pairs[k].key, .string s.pairs[k].val] 53 (0, 0)) := by rw [hwc]; exact (heap_alloc_if _ _ _).trans (if_pos rfl)
      have HBC : Hid (Buf w1.heap.size (w.heap.size + 1) (Lib.itoa (s.pairs.length : Int) ++ pairsL (s.pairs.take k)) wc) := hid (by
        obtain ⟨v, hv1, hv2⟩ := hbuf.out.row
        rw [hwc]
        exact ⟨⟨v, (Below.heap_alloc _ _ _ (lt_of_heap hv1)).trans hv1, hv2.alloc _⟩⟩)
      have T1 := put1_any s.pairs[k].key w1.heap.size (w.heap.size + 1) _ wc HBC.out hqb (by rw [List.length_append]; omega) (HTB.out.go bc)
      have u0 := cell_of_row wc _ 0 _ _ _ rc
      have u1 := cell_of_row wc _ 1 _ _ _ rc
      have hlc : wr.heap.size < wc.heap.size := by omega
      go_upto_region 6 with fail
      rw [← hwc]
      clear hwc
      go_upto_region 7 with (go_at_call 63; refine T1.mono ?_; rintro e w3 ⟨rfl, hbuf3, hb3, hk3⟩)
      have r3 := hk3 wr.heap.size _ rc (by simp; omega) (by intro c fz h; cases h)
      have b3 := bc.trans hb3
      have T2 := put1_any s.pairs[k].val w1.heap.size (w.heap.size + 1) _ w3 hbuf3 hqb (by rw [List.length_append, List.length_append]; omega) (HTB.out.go b3)
      have u2 := cell_of_row w3 _ 1 _ _ _ r3
      clear T1 u0 u1 hb3 hk3
      go_wp2_with (go_at_call 63; refine T2.mono ?_; rintro e w4 ⟨rfl, hbuf4, hb4, hk4⟩)
      refine ⟨⟨k + 1, by omega, by go_num, b3.trans hb4, hid ?_⟩, by simp [intOf]; omega⟩
      rw [pairsL_succ hlt]
      simpa only [List.append_assoc] using hbuf4
    · obtain rfl : k = s.pairs.length := by omega
      rw [List.take_length] at hbuf
      have b2 := (hb.cell (p := ⟨w.heap.size, 1, none⟩) (by simp)).trans b1
      have hlr : w.heap.size < wr.heap.size := by omega
      have HBUF2 := hbuf
      have HSH2 := hid (HSH.out.below (hb.mono (by omega)))
      have HSHB := HSH
      clear hbuf HBUF HSH
      go_wp2_with fail
      go_loopw [33] (fun v33 wr => ∃ k : Nat, k ≤ s.queue.length ∧ v33 = .int .i64 k ∧ Below (w.heap.size + 1) wb wr ∧ Hid (Buf w1.heap.size (w.heap.size + 1) (Lib.itoa (s.pairs.length : Int) ++ pairsL s.pairs ++ queueL (s.queue.take k)) wr)) (fun v33 _ => s.queue.length - (intOf v33).toNat)
      case atStart => exact ⟨0, Nat.zero_le _, rfl, hb, by simpa [queueL] using HBUF2⟩
      case round =>
        obtain ⟨k, hkl, rfl, hbq, hbuf⟩ := hrel
        have hsq := hbq.size
        have hqm1 := HSH2.out.qlen
        have hqm2 := HSH2.out.qmax
        by_cases hlt : k < s.queue.length
        · obtain ⟨b, off, rfl, hbB, d0⟩ := (HSHB.out.queue.below (hbq.mono (by omega))).txt1 hlt
          have hbr : b < wr.heap.size := by omega
          have hle := queueL_le s.queue (k + 1)
          rw [queueL_succ hlt] at hle
          have hx1 := txtItem_size s.queue[k]
          have hbd := HB.out
          unfold textL at hbd
          simp only [List.length_append] at hle hbd
          have T1 := put1_any s.queue[k] w1.heap.size (w.heap.size + 1) _ wr hbuf.out hqb (by rw [List.length_append, List.length_append]; omega) (HTB.out.go hbq)
          go_wp2_with (go_at_call 63; refine T1.mono ?_; rintro e w4 ⟨rfl, hbuf4, hb4, hk4⟩)
          refine ⟨⟨k + 1, by omega, by go_num, hbq.trans hb4, hid ?_⟩, by simp [intOf]; omega⟩
          rw [queueL_succ hlt]
          simpa only [List.append_assoc] using hbuf4
        · obtain rfl : k = s.queue.length := by omega
          obtain ⟨v, hv1, hv2⟩ := hbuf.out.row
          rw [List.take_length] at hv2
          have hcv := convText hv2
          obtain ⟨A9, d9, rfl⟩ := own_slice hv2
          simp only [List.length_append, Nat.add_assoc] at hcv
          have c9 := cell_of_row wr _ 0 _ _ _ hv1
          have hl9 := lt_of_heap hv1
          clear hbuf hv1 hv2
          go_wp2_with fail
          go_ret
          exact ⟨_, rfl, by simp [bytesOf, textL], bwb.trans (hbq.mono (by omega))⟩
end Go.Proofs.YtamcehfcjcmpmaaDoor
