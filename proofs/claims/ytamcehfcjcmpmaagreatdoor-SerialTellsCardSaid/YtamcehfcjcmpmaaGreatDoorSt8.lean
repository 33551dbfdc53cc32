/- serial.text: a shelf as a text. -/
import Derived.Test.YtamcehfcjcmpmaaGreatDoorMem
import Derived.Test.YtamcehfcjcmpmaaGreatDoorRows
import Derived.Test.YtamcehfcjcmpmaaGreatDoorLayD
import Derived.Shelf.Strconv.AppendIntPublic10
import Derived.Test.YtamcehfcjcmpmaaGreatDoorSt6
import Derived.Lib.AppendStr
import Derived.Lib.OwnKind
import Derived.Lib.OthersKept
import Derived.OwnWalk
import Derived.Lib.ItoaLen
import Derived.Deep.DeepCutAuto
import Derived.Lib.BufferRead
import Derived.Lib.SlBytesRow
/- A bit set in a number. Plain. -/
namespace Go.Proofs.YtamcehfcjcmpmaaGreatDoor

theorem testBit_set (d i j : Nat) : (d ||| 1 <<< i).testBit j = (d.testBit j || decide (j = i)) := by
  rw [Nat.testBit_or, Nat.shiftLeft_eq, Nat.one_mul, Nat.testBit_two_pow]
  by_cases h : i = j
  · subst h; simp
  · have h' : j ≠ i := fun e => h e.symm
    simp [h, h']
end Go.Proofs.YtamcehfcjcmpmaaGreatDoor
/- A shelf as a text: serial.text's closure, serial.text. -/
namespace Go.Proofs.YtamcehfcjcmpmaaGreatDoor
open Go.RowKit

abbrev Tab (B : Nat) (w : World) : Prop := Lib.TabBelow Tryz.prog B w "internal/strconv.uint64pow10" .u64 Lib.pow10Tab
theorem Tab.go {B : Nat} {w w' : World} (h : Tab B w) (hb : Below B w w') : Tab B w' := fun w2 h2 => h w2 (hb.trans h2)
def bytesOf (x : ByteArray) : List UInt8 := x.data.toList
def txtItem (x : ByteArray) : List UInt8 := 32 :: (Lib.itoa (x.size : Int) ++ (58 :: bytesOf x))
theorem byteCells_append (a b : List UInt8) : Lib.byteCells (a ++ b) = Lib.byteCells a ++ Lib.byteCells b := by simp [Lib.byteCells]
/-- a variable that holds a slice of bytes of the call's own -/
structure Buf (q base : Nat) (l : List UInt8) (w : World) : Prop where
  row : ∃ v, w.heap[q]? = some (.cells #[v] 91 (0, 0)) ∧ w.ownsRow base 5 1 v l.length (Lib.byteCells l)
theorem own_ne {w : World} {base q n : Nat} {v u : Value} {xs : List Value} (h : w.ownsRow base 5 1 v n xs) (hq : w.heap[q]? = some (.cells #[u] 91 (0, 0))) : v.ownBlock ≠ some q := by
  intro e
  obtain ⟨c, fz, hc⟩ := Lib.ownsRow_kind h q e
  rw [hq] at hc
  exact absurd hc (by intro h; cases h)
theorem own_slice {w : World} {base n : Nat} {v : Value} {xs : List Value} (h : w.ownsRow base 5 1 v n xs) : ∃ A c, v = .slice A n c := by
  rcases h.2 with ⟨h1, h2⟩ | ⟨g, cap, cur, rfl, -⟩
  · exact ⟨none, 0, by rw [h1, h2]⟩
  · exact ⟨_, _, rfl⟩
theorem buf_store {w : World} {q base n : Nat} {u v : Value} {xs : List Value} (hq : w.heap[q]? = some (.cells #[u] 91 (0, 0))) (hown : w.ownsRow base 5 1 v n xs) :
    (w.setCell ⟨q, 0, none⟩ v).heap[q]? = some (.cells #[v] 91 (0, 0)) ∧ (w.setCell ⟨q, 0, none⟩ v).ownsRow base 5 1 v n xs := by
  refine ⟨?_, hown.1, ?_⟩
  · have := heap_setCell_same _ q 0 _ _ v hq
    exact this
  · have hne := own_ne hown hq
    rcases hown.2 with h | ⟨g, cap, cur, rfl, hg, hh, h1, h2, h3, h4⟩
    · exact .inl h
    · exact .inr ⟨g, cap, cur, rfl, hg, (Below.heap_setCell _ _ _ _ (fun e => hne (congrArg some e))).trans hh, h1, h2, h3, h4⟩
theorem info_u8 : (Tryz.prog.info? 5).map (fun i => (i.zero, i.size, i.bytes)) = some (some (.int .u8 0), 1, 1) := by kernel_rfl
set_option maxHeartbeats 4000000 in
set_option maxRecDepth 100000 in
theorem put1_any (x : ByteArray) (q base : Nat) (l : List UInt8) (w : World) (h : Buf q base l w) (hbq : base ≤ q) (hl : l.length + x.size ≤ 100000000) (ht : Tab base w) :
    Calls Tryz.prog 47 #[.string x, .pointer (some ⟨q, 0, none⟩)] w fun e w' => e = .returned (.tuple #[]) ∧ Buf q base (l ++ txtItem x) w' ∧ Below base w w' ∧ Lib.OthersKept 5 (some q) w w' := by
  obtain ⟨v, hq, hown⟩ := h.row
  obtain ⟨i0, hi, hz0, hz1, hz2⟩ := info_parts info_u8
  have hqs := lt_of_heap hq
  have c0 := cell_of_row w q 0 _ _ _ hq
  have HI := hid hi
  have HZ0 := hid hz0
  have HZ1 := hid hz1
  have HZ2 := hid hz2
  have HT := hid ht
  have HL := hid hl
  clear hi hz0 hz1 hz2 ht hl h
  go_enter Tryz.func47, Tryz.ntmps47
  go_wp2_with (at_builtin; refine wpList_append_own _ rfl _ _ 91 rfl base 5 i0 (.int .u8 0) 1 1 Tryz.underlying91 HI.out HZ0.out HZ1.out HZ2.out rfl (by decide) _ _ _ rfl (hown.alloc _) ⟨w.heap.size, 0, none⟩ 1 1 [Value.int .u8 32] rfl rfl (by intro j u' hj; match j, hj with | 0, hj => simp at hj; subst hj; simp [Addr.add]) (by intro u' hu'; simp at hu'; subst hu'; rfl) (by unfold maxLen; have := HL.out; omega) (by have := HL.out; omega) (by simp; omega) ?_)
  intro v1 w1 hown1 hg1 _
  obtain ⟨A1, d1, rfl⟩ := own_slice hown1
  have r1 : w1.heap[q]? = some (.cells #[v] 91 (0, 0)) := (hg1.block q (by simp; omega) (own_ne hown hq).symm).trans ((Below.heap_alloc w _ q hqs).trans hq)
  have b1 : Below base w w1 := ((Below.refl base w).alloc (by omega) _).grown hg1 (by simp; omega) (fun k hk => (hown.lt k hk).1)
  obtain ⟨s1, o1⟩ := buf_store r1 hown1
  have z1 := hg1.size
  simp only [World.size_alloc] at z1
  have c1 := cell_of_row w1 q 0 _ _ _ r1
  have f1 := frozen_of_row w1 q 0 _ _ r1
  have q1 : q < w1.heap.size := by omega
  have bb1 : Below base w (w1.setCell ⟨q, 0, none⟩ (.slice A1 (l.length + 1) d1)) := b1.setCell hbq _
  have kk1 : Lib.OthersKept 5 (some q) w (w1.setCell ⟨q, 0, none⟩ (.slice A1 (l.length + 1) d1)) := Lib.OthersKept.setCell (b := q) (((Lib.OthersKept.refl _ _ w).alloc _).grown hg1 (Lib.ownsRow_kind (hown.alloc _))) ⟨q, 0, none⟩ rfl _
  clear hown hq c0 hown1 hg1
  have T1 := appendInt_any base _ (x.size : Int) (by omega) (by have := HL.out; omega) _ _ _ o1 (by simp only [World.size_setCell]; omega) (by have := HL.out; omega) (HT.out.go bb1)
  have O1 := hid o1
  have S1 := hid s1
  clear o1 s1
  go_upto_region 2 with (go_at_call 46; refine T1.mono ?_; rintro e w3 ⟨v3, rfl, hown3, hb3, hk3⟩; obtain ⟨A3, d3, rfl⟩ := own_slice hown3; have r3 := hk3 q _ S1.out (by simp) (by intro c fz h; cases h); have c3 := cell_of_row w3 q 0 _ _ _ r3; have f3 := frozen_of_row w3 q 0 _ _ r3; have q3 := lt_of_heap r3; have OW := hid hown3; have BW := hid hb3; have kk3 : Lib.OthersKept 5 (some q) w w3 := (kk1.trans (fun k o hk _ ho => hk3 k o hk (by simp) ho)); clear hown3 hb3 hk3)
  have hown3 := OW.out
  have hb3 := BW.out
  have z3 := hb3.size
  obtain ⟨s3, o3⟩ := buf_store r3 hown3
  have bb3 : Below base w (w3.setCell ⟨q, 0, none⟩ _) := (bb1.trans hb3).setCell hbq (.slice A3 (l.length + 1 + (Lib.itoa (x.size : Int)).length) d3)
  have hi3 : (Lib.itoa (x.size : Int)).length ≤ 21 := Lib.itoa_length_le _ (by omega) (by have := HL.out; omega)
  have z3' : base ≤ w3.heap.size := by omega
  have kk4 := Lib.OthersKept.setCell (b := q) kk3 ⟨q, 0, none⟩ rfl (.slice A3 (l.length + 1 + (Lib.itoa (x.size : Int)).length) d3)
  clear hown3 hb3 OW BW T1 O1 S1 c1 f1 z1 kk1 kk3
  obtain ⟨w4, hw4⟩ : ∃ w4, w4 = w3.setCell ⟨q, 0, none⟩ (.slice A3 (l.length + 1 + (Lib.itoa (x.size : Int)).length) d3) := ⟨_, rfl⟩
  rw [← hw4] at s3 o3 bb3 kk4 ⊢
  have z4 : base ≤ w4.heap.size := by rw [hw4]; simpa using z3'
  have q4 := lt_of_heap s3
  have c4 := cell_of_row w4 q 0 _ _ _ s3
  clear hw4 c3 f3 q3 z3' z3 r3 bb1 r1 q1
  go_upto_region 3 with (at_builtin; refine wpList_append_own _ rfl _ _ 91 rfl base 5 i0 (.int .u8 0) 1 1 Tryz.underlying91 HI.out HZ0.out HZ1.out HZ2.out rfl (by decide) _ _ _ rfl (o3.alloc _) ⟨w4.heap.size, 0, none⟩ 1 1 [Value.int .u8 58] rfl rfl (by intro j u' hj; match j, hj with | 0, hj => simp at hj; subst hj; simp [Addr.add]) (by intro u' hu'; simp at hu'; subst hu'; rfl) (by unfold maxLen; have := HL.out; omega) (by have := HL.out; omega) (by simp; omega) ?_; intro v5 w5 hown5 hg5 hn5; obtain ⟨A5, d5, rfl⟩ := own_slice hown5; have r5 := (hg5.block q (by simp; omega) (own_ne o3 s3).symm).trans ((Below.heap_alloc w4 _ q q4).trans s3); have b5 : Below base w w5 := ((bb3.alloc z4 _).grown hg5 (by simp; omega) (fun k hk => (o3.lt k hk).1)); have c5 := cell_of_row w5 q 0 _ _ _ r5; have f5 := frozen_of_row w5 q 0 _ _ r5; have q5 := lt_of_heap r5; have OW := hid hown5; have kk5 : Lib.OthersKept 5 (some q) w w5 := ((kk4.alloc _).grown hg5 (Lib.ownsRow_kind (o3.alloc _))); clear hown5 hg5 hn5)
  obtain ⟨s5, o5⟩ := buf_store r5 OW.out
  have bb5 : Below base w (w5.setCell ⟨q, 0, none⟩ _) := b5.setCell hbq (.slice A5 (l.length + 1 + (Lib.itoa (x.size : Int)).length + 1) d5)
  obtain ⟨w6, hw6⟩ : ∃ w6, w6 = w5.setCell ⟨q, 0, none⟩ (.slice A5 (l.length + 1 + (Lib.itoa (x.size : Int)).length + 1) d5) := ⟨_, rfl⟩
  have kk6 := Lib.OthersKept.setCell (b := q) kk5 ⟨q, 0, none⟩ rfl (.slice A5 (l.length + 1 + (Lib.itoa (x.size : Int)).length + 1) d5)
  rw [← hw6] at s5 o5 bb5 kk6 ⊢
  have q6 := lt_of_heap s5
  have z6 : base ≤ w6.heap.size := by omega
  have c6 := cell_of_row w6 q 0 _ _ _ s5
  clear hw6 c5 f5 q5 r5 b5 OW o3 s3 bb3 c4 q4 z4
  go_wp2_with (at_builtin; refine Lib.wpList_append_own_string _ rfl (.tmp 13) (.tmp 14) 91 9 rfl base 5 i0 Tryz.underlying91 Tryz.underlying9 HI.out HZ0.out HZ1.out HZ2.out _ _ _ rfl o5 x rfl (by unfold maxLen; have := HL.out; omega) (by have := HL.out; omega) z6 ?_; intro v7 w7 hown7 hg7 hn7; obtain ⟨A7, d7, rfl⟩ := own_slice hown7; have r7 := (hg7.block q q6 (own_ne o5 s5).symm).trans s5; have b7 : Below base w w7 := (bb5.grown hg7 z6 (fun k hk => (o5.lt k hk).1)); have c7 := cell_of_row w7 q 0 _ _ _ r7; have f7 := frozen_of_row w7 q 0 _ _ r7; have q7 := lt_of_heap r7; have OW := hid hown7; have kk7 : Lib.OthersKept 5 (some q) w w7 := (kk6.grown hg7 (Lib.ownsRow_kind o5)); clear hown7 hg7 hn7)
  obtain ⟨s7, o7⟩ := buf_store r7 OW.out
  refine bodyPost_end (v := .tuple #[]) (by simp [results, Tryz.results47]) rfl ⟨rfl, ⟨_, s7, ?_⟩, b7.setCell hbq _, Lib.OthersKept.setCell (b := q) kk7 ⟨q, 0, none⟩ rfl _⟩
  have e1 : (l ++ txtItem x).length = l.length + 1 + (Lib.itoa (x.size : Int)).length + 1 + x.size := by
    have h0 : x.data.toList.length = x.size := Array.length_toList
    simp only [txtItem, bytesOf, List.length_append, List.length_cons, h0]
    omega
  have e2 : Lib.byteCells (l ++ txtItem x) = Lib.byteCells l ++ [Value.int .u8 32] ++ Lib.byteCells (Lib.itoa (x.size : Int)) ++ [Value.int .u8 58] ++ Lib.strCells x := by
    simp [txtItem, bytesOf, Lib.byteCells, Lib.strCells]
  rw [e1, e2]
  exact o7
end Go.Proofs.YtamcehfcjcmpmaaGreatDoor
namespace Go.Proofs.YtamcehfcjcmpmaaGreatDoor
open Go.RowKit

def pairsL (l : List Pair) : List UInt8 := l.flatMap fun p => txtItem p.key ++ txtItem p.val
def queueL (l : List ByteArray) : List UInt8 := l.flatMap txtItem
def textL (s : Shelf) : List UInt8 := Lib.itoa (s.pairs.length : Int) ++ pairsL s.pairs ++ queueL s.queue
theorem pairsL_succ {l : List Pair} {k : Nat} (hk : k < l.length) : pairsL (l.take (k + 1)) = pairsL (l.take k) ++ txtItem l[k].key ++ txtItem l[k].val := by
  unfold pairsL
  rw [List.take_succ_eq_append_getElem hk, List.flatMap_append]
  simp
theorem queueL_succ {l : List ByteArray} {k : Nat} (hk : k < l.length) : queueL (l.take (k + 1)) = queueL (l.take k) ++ txtItem l[k] := by
  unfold queueL
  rw [List.take_succ_eq_append_getElem hk, List.flatMap_append]
  simp
theorem pairsL_le (l : List Pair) (k : Nat) : (pairsL (l.take k)).length ≤ (pairsL l).length := by
  conv => rhs; rw [← List.take_append_drop k l]
  unfold pairsL
  rw [List.flatMap_append, List.length_append]
  omega
theorem queueL_le (l : List ByteArray) (k : Nat) : (queueL (l.take k)).length ≤ (queueL l).length := by
  conv => rhs; rw [← List.take_append_drop k l]
  unfold queueL
  rw [List.flatMap_append, List.length_append]
  omega
theorem txtItem_size (x : ByteArray) : x.size ≤ (txtItem x).length := by
  have h0 : x.data.toList.length = x.size := Array.length_toList
  simp only [txtItem, bytesOf, List.length_append, List.length_cons, h0]
  omega
theorem convText {w : World} {base : Nat} {v : Value} {l : List UInt8} (h : w.ownsRow base 5 1 v l.length (Lib.byteCells l)) : (convert 91 9 v).run Tryz.prog w = .ok (.string ⟨l.toArray⟩) w := by
  rcases h.2 with ⟨rfl, h0⟩ | ⟨g, cap, cur, rfl, hg, hh, h1, h2, h3, h4⟩
  · have hl : l = [] := List.eq_nil_of_length_eq_zero h0
    subst hl
    exact Lib.run_convert_nil_bytes w _ _ 5 0 Tryz.underlying91 Tryz.underlying5 Tryz.underlying9
  · have hsz : (⟨l.toArray⟩ : ByteArray).size = l.length := by simp [ByteArray.size]
    have hb : Lib.Bytes w g 0 ⟨l.toArray⟩ := fun i hi => by
      have hi' : i < l.length := by omega
      have := Lib.bytes_of_row hh (l := l) (by rw [← h4]; simp) i hi'
      rw [Addr.add_lit] at this
      exact this
    have := Lib.run_convert_whole (P := Tryz.prog) w 91 5 9 Tryz.underlying91 Tryz.underlying5 Tryz.underlying9 g 0 _ hb cap
    rw [hsz] at this
    exact this
def GivesText (s : Shelf) (w : World) (e : Ending) (w' : World) : Prop := ∃ t : ByteArray, e = .returned (.string t) ∧ bytesOf t = textL s ∧ Below w.heap.size w w'
set_option maxHeartbeats 4000000 in
set_option maxRecDepth 100000 in
theorem text_any (s : Shelf) (PA : Option Addr) (pc : Nat) (QA : Option Addr) (qc : Nat) (w : World) (h : ShIn w w.heap.size PA pc QA qc s) (hb : (textL s).length ≤ 10000000) (hp : s.pairs.length ≤ 1000000) (ht : Tab w.heap.size w) :
    Calls Tryz.prog 33 #[.agg #[.slice PA s.pairs.length pc, .slice QA s.queue.length qc]] w (GivesText s w) := by
  have H := hid h
  have HB := hid hb
  have HP := hid hp
  have HT := hid ht
  clear h hb hp ht
  go_enter Tryz.func33, Tryz.ntmps33
  obtain ⟨wa, hwa⟩ : ∃ wa, wa = w.alloc (.cells #[.slice PA s.pairs.length pc, .slice QA s.queue.length qc] 25) := ⟨_, rfl⟩
  have za : wa.heap.size = w.heap.size + 1 := by rw [hwa]; simp
  have ba : Below w.heap.size w wa := by rw [hwa]; exact (Below.refl _ _).alloc (Nat.le_refl _) _
  have T0 := appendInt_any (w.heap.size + 1) 0 (s.pairs.length : Int) (by omega) (by have := HP.out; omega) (.slice none 0 0) [] wa (World.ownsRow_nil wa _ _ _) (by omega) (by omega) (fun w2 h2 => HT.out w2 (ba.trans (h2.mono (by omega))))
  have r0 : wa.heap[w.heap.size]? = some (.cells #[.slice PA s.pairs.length pc, .slice QA s.queue.length qc] 25 (0, 0)) := by rw [hwa]; exact (heap_alloc_if _ _ _).trans (if_pos rfl)
  have a0 := cell_of_row wa _ 0 _ _ _ r0
  have a1 := cell_of_row wa _ 1 _ _ _ r0
  have hla : w.heap.size < wa.heap.size := by omega
  go_upto_region 1 with fail
  rw [← hwa]
  clear hwa
  go_upto_region 2 with (go_at_call 46; refine T0.mono ?_; rintro e w1 ⟨v1, rfl, hown1, hb1, hk1⟩; obtain ⟨A1, d1, rfl⟩ := own_slice hown1; have OW := hid hown1; have BW := hid hb1; clear hown1 hb1 hk1)
  have hown1 := OW.out
  have hb1 := BW.out
  have z1 := hb1.size
  obtain ⟨wb, hwb⟩ : ∃ wb, wb = w1.alloc (.cells #[.slice A1 (Lib.itoa (s.pairs.length : Int)).length d1] 91) := ⟨_, rfl⟩
  rw [← hwb]
  have zb : wb.heap.size = w1.heap.size + 1 := by rw [hwb]; simp
  have bab : Below (w.heap.size + 1) wa wb := by rw [hwb]; exact hb1.alloc (by omega) _
  have bwb : Below w.heap.size w wb := ba.trans (bab.mono (by omega))
  have HBUF : Hid (Buf w1.heap.size (w.heap.size + 1) (Lib.itoa (s.pairs.length : Int)) wb) := hid (by
    rw [hwb]
    have := hown1.alloc (.cells #[.slice A1 (Lib.itoa (s.pairs.length : Int)).length d1] 91)
    exact ⟨⟨_, (heap_alloc_if _ _ _).trans (if_pos rfl), by simpa using this⟩⟩)
  have b0 := (bab.cell (p := ⟨w.heap.size, 0, none⟩) (by simp)).trans a0
  have b1 := (bab.cell (p := ⟨w.heap.size, 1, none⟩) (by simp)).trans a1
  have hlb : w.heap.size < wb.heap.size := by omega
  have HTB := hid (show Tab (w.heap.size + 1) wb from fun w2 h2 => HT.out w2 (bwb.trans (h2.mono (by omega))))
  have HSH := hid (H.out.below bwb)
  have hqb : w.heap.size + 1 ≤ w1.heap.size := by omega
  clear hwb OW BW hown1 hb1 T0 a0 a1 r0 hla
  go_wp2_with fail
  go_loopw [17] (fun v17 wr => ∃ k : Nat, k ≤ s.pairs.length ∧ v17 = .int .i64 k ∧ Below (w.heap.size + 1) wb wr ∧ Hid (Buf w1.heap.size (w.heap.size + 1) (Lib.itoa (s.pairs.length : Int) ++ pairsL (s.pairs.take k)) wr)) (fun v17 _ => s.pairs.length - (intOf v17).toNat)
  case atStart => exact ⟨0, Nat.zero_le _, rfl, Below.refl _ _, by simpa [pairsL] using HBUF⟩
  case round =>
    obtain ⟨k, hkl, rfl, hb, hbuf⟩ := hrel
    have hsz := hb.size
    have hpm := HP.out
    by_cases hlt : k < s.pairs.length
    · obtain ⟨b, off, rfl, hbB, d0, d1⟩ := (HSH.out.pairs.below (hb.mono (by omega))).pair hlt
      have hbr : b < wr.heap.size := by omega
      have hq1 := hsz
      have hle := pairsL_le s.pairs (k + 1)
      rw [pairsL_succ hlt] at hle
      have hx1 := txtItem_size s.pairs[k].key
      have hx2 := txtItem_size s.pairs[k].val
      have hbd := HB.out
      unfold textL at hbd
      simp only [List.length_append] at hle hbd
      obtain ⟨wc, hwc⟩ : ∃ wc, wc = wr.alloc (.cells #[.string s.pairs[k].key, .string s.pairs[k].val] 54) := ⟨_, rfl⟩
      have zc : wc.heap.size = wr.heap.size + 1 := by rw [hwc]; simp
      have bc : Below (w.heap.size + 1) wb wc := by rw [hwc]; exact hb.alloc (by omega) _
      have rc : wc.heap[wr.heap.size]? = some (.cells #[.string s.pairs[k].key, .string s.pairs[k].val] 54 (0, 0)) := by rw [hwc]; exact (heap_alloc_if _ _ _).trans (if_pos rfl)
      have HBC : Hid (Buf w1.heap.size (w.heap.size + 1) (Lib.itoa (s.pairs.length : Int) ++ pairsL (s.pairs.take k)) wc) := hid (by
        obtain ⟨v, hv1, hv2⟩ := hbuf.out.row
        rw [hwc]
        exact ⟨⟨v, (Below.heap_alloc _ _ _ (lt_of_heap hv1)).trans hv1, hv2.alloc _⟩⟩)
      have T1 := put1_any s.pairs[k].key w1.heap.size (w.heap.size + 1) _ wc HBC.out hqb (by rw [List.length_append]; omega) (HTB.out.go bc)
      have u0 := cell_of_row wc _ 0 _ _ _ rc
      have u1 := cell_of_row wc _ 1 _ _ _ rc
      have hlc : wr.heap.size < wc.heap.size := by omega
      go_upto_region 6 with fail
      rw [← hwc]
      clear hwc
      go_upto_region 7 with (go_at_call 47; refine T1.mono ?_; rintro e w3 ⟨rfl, hbuf3, hb3, hk3⟩)
      have r3 := hk3 wr.heap.size _ rc (by simp; omega) (by intro c fz h; cases h)
      have b3 := bc.trans hb3
      have T2 := put1_any s.pairs[k].val w1.heap.size (w.heap.size + 1) _ w3 hbuf3 hqb (by rw [List.length_append, List.length_append]; omega) (HTB.out.go b3)
      have u2 := cell_of_row w3 _ 1 _ _ _ r3
      clear T1 u0 u1 hb3 hk3
      go_wp2_with (go_at_call 47; refine T2.mono ?_; rintro e w4 ⟨rfl, hbuf4, hb4, hk4⟩)
      refine ⟨⟨k + 1, by omega, by go_num, b3.trans hb4, hid ?_⟩, by simp [intOf]; omega⟩
      rw [pairsL_succ hlt]
      simpa only [List.append_assoc] using hbuf4
    · obtain rfl : k = s.pairs.length := by omega
      rw [List.take_length] at hbuf
      have b2 := (hb.cell (p := ⟨w.heap.size, 1, none⟩) (by simp)).trans b1
      have hlr : w.heap.size < wr.heap.size := by omega
      have HBUF2 := hbuf
      have HSH2 := hid (HSH.out.below (hb.mono (by omega)))
      have HSHB := HSH
      clear hbuf HBUF HSH
      go_wp2_with fail
      go_loopw [33] (fun v33 wr => ∃ k : Nat, k ≤ s.queue.length ∧ v33 = .int .i64 k ∧ Below (w.heap.size + 1) wb wr ∧ Hid (Buf w1.heap.size (w.heap.size + 1) (Lib.itoa (s.pairs.length : Int) ++ pairsL s.pairs ++ queueL (s.queue.take k)) wr)) (fun v33 _ => s.queue.length - (intOf v33).toNat)
      case atStart => exact ⟨0, Nat.zero_le _, rfl, hb, by simpa [queueL] using HBUF2⟩
      case round =>
        obtain ⟨k, hkl, rfl, hbq, hbuf⟩ := hrel
        have hsq := hbq.size
        have hqm1 := HSH2.out.qlen
        have hqm2 := HSH2.out.qmax
        by_cases hlt : k < s.queue.length
        · obtain ⟨b, off, rfl, hbB, d0⟩ := (HSHB.out.queue.below (hbq.mono (by omega))).txt1 hlt
          have hbr : b < wr.heap.size := by omega
          have hle := queueL_le s.queue (k + 1)
          rw [queueL_succ hlt] at hle
          have hx1 := txtItem_size s.queue[k]
          have hbd := HB.out
          unfold textL at hbd
          simp only [List.length_append] at hle hbd
          have T1 := put1_any s.queue[k] w1.heap.size (w.heap.size + 1) _ wr hbuf.out hqb (by rw [List.length_append, List.length_append]; omega) (HTB.out.go hbq)
          go_wp2_with (go_at_call 47; refine T1.mono ?_; rintro e w4 ⟨rfl, hbuf4, hb4, hk4⟩)
          refine ⟨⟨k + 1, by omega, by go_num, hbq.trans hb4, hid ?_⟩, by simp [intOf]; omega⟩
          rw [queueL_succ hlt]
          simpa only [List.append_assoc] using hbuf4
        · obtain rfl : k = s.queue.length := by omega
          obtain ⟨v, hv1, hv2⟩ := hbuf.out.row
          rw [List.take_length] at hv2
          have hcv := convText hv2
          obtain ⟨A9, d9, rfl⟩ := own_slice hv2
          simp only [List.length_append, Nat.add_assoc] at hcv
          have c9 := cell_of_row wr _ 0 _ _ _ hv1
          have hl9 := lt_of_heap hv1
          clear hbuf hv1 hv2
          go_wp2_with fail
          go_ret
          exact ⟨_, rfl, by simp [bytesOf, textL], bwb.trans (hbq.mono (by omega))⟩
end Go.Proofs.YtamcehfcjcmpmaaGreatDoor
