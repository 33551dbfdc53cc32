/- A shelf as a text: serial.text's closure, serial.text. -/
import Derived.Test.YtamcehfcjcmpmaaDoorLayD
import Derived.Test.YtamcehfcjcmpmaaDoorSt6
import Derived.Lib.AppendStr
import Derived.Lib.OwnKind
import Derived.Lib.OthersKept
import Derived.OwnWalk
import Derived.Lib.ItoaLen
import Derived.Deep.DeepCutAuto
namespace Go.Proofs.YtamcehfcjcmpmaaDoor
open Go.RowKit

abbrev Tab (B : Nat) (w : World) : Prop := Lib.TabBelow Tryd.prog B w "internal/strconv.uint64pow10" .u64 Lib.pow10Tab
theorem Tab.go {B : Nat} {w w' : World} (h : Tab B w) (hb : Below B w w') : Tab B w' := fun w2 h2 => h w2 (hb.trans h2)
def bytesOf (x : ByteArray) : List UInt8 := x.data.toList
def txtItem (x : ByteArray) : List UInt8 := 32 :: (Lib.itoa (x.size : Int) ++ (58 :: bytesOf x))
theorem byteCells_append (a b : List UInt8) : Lib.byteCells (a ++ b) = Lib.byteCells a ++ Lib.byteCells b := by simp [Lib.byteCells]
/-- a variable that holds a slice of bytes of the call's own -/
structure Buf (q base : Nat) (l : List UInt8) (w : World) : Prop where
  row : ∃ v, w.heap[q]? = some (.cells #[v] 105 (0, 0)) ∧ w.ownsRow base 5 1 v l.length (Lib.byteCells l)
theorem own_ne {w : World} {base q n : Nat} {v u : Value} {xs : List Value} (h : w.ownsRow base 5 1 v n xs) (hq : w.heap[q]? = some (.cells #[u] 105 (0, 0))) : v.ownBlock ≠ some q := by
  intro e
  obtain ⟨c, fz, hc⟩ := Lib.ownsRow_kind h q e
  rw [hq] at hc
  exact absurd hc (by intro h; cases h)
theorem own_slice {w : World} {base n : Nat} {v : Value} {xs : List Value} (h : w.ownsRow base 5 1 v n xs) : ∃ A c, v = .slice A n c := by
  rcases h.2 with ⟨h1, h2⟩ | ⟨g, cap, cur, rfl, -⟩
  · exact ⟨none, 0, by rw [h1, h2]⟩
  · exact ⟨_, _, rfl⟩
theorem buf_store {w : World} {q base n : Nat} {u v : Value} {xs : List Value} (hq : w.heap[q]? = some (.cells #[u] 105 (0, 0))) (hown : w.ownsRow base 5 1 v n xs) :
    (w.setCell ⟨q, 0, none⟩ v).heap[q]? = some (.cells #[v] 105 (0, 0)) ∧ (w.setCell ⟨q, 0, none⟩ v).ownsRow base 5 1 v n xs := by
  refine ⟨?_, hown.1, ?_⟩
  · have := heap_setCell_same _ q 0 _ _ v hq
    exact this
  · have hne := own_ne hown hq
    rcases hown.2 with h | ⟨g, cap, cur, rfl, hg, hh, h1, h2, h3, h4⟩
    · exact .inl h
    · exact .inr ⟨g, cap, cur, rfl, hg, (Below.heap_setCell _ _ _ _ (fun e => hne (congrArg some e))).trans hh, h1, h2, h3, h4⟩
theorem info_u8 : (Tryd.prog.info? 5).map (fun i => (i.zero, i.size, i.bytes)) = some (some (.int .u8 0), 1, 1) := by kernel_rfl
set_option maxHeartbeats 4000000 in
set_option maxRecDepth 100000 in
theorem put1_any (x : ByteArray) (q base : Nat) (l : List UInt8) (w : World) (h : Buf q base l w) (hbq : base ≤ q) (hl : l.length + x.size ≤ 100000000) (ht : Tab base w) :
    Calls Tryd.prog 63 #[.string x, .pointer (some ⟨q, 0, none⟩)] w fun e w' => e = .returned (.tuple #[]) ∧ Buf q base (l ++ txtItem x) w' ∧ Below base w w' ∧ Lib.OthersKept 5 (some q) w w' := by
  obtain ⟨v, hq, hown⟩ := h.row
  obtain ⟨i0, hi, hz0, hz1, hz2⟩ := info_parts info_u8
  have hqs := lt_of_heap hq
  have c0 := cell_of_row w q 0 _ _ _ hq
  have HI := hid hi
  have HZ0 := hid hz0
  have HZ1 := hid hz1
  have HZ2 := hid hz2
  have HT := hid ht
  have HL := hid hl
  clear hi hz0 hz1 hz2 ht hl h
  go_enter Tryd.func63, Tryd.ntmps63
  go_wp2_with (at_builtin; refine wpList_append_own _ rfl _ _ 105 rfl base 5 i0 (.int .u8 0) 1 1 Tryd.underlying105 HI.out HZ0.out HZ1.out HZ2.out rfl (by decide) _ _ _ rfl (hown.alloc _) ⟨w.heap.size, 0, none⟩ 1 1 [Value.int .u8 32] rfl rfl (by intro j u' hj; match j, hj with | 0, hj => simp at hj; subst hj; simp [Addr.add]) (by intro u' hu'; simp at hu'; subst hu'; rfl) (by unfold maxLen; have := HL.out; omega) (by have := HL.out; omega) (by simp; omega) ?_)
  intro v1 w1 hown1 hg1 _
  obtain ⟨A1, d1, rfl⟩ := own_slice hown1
  have r1 : w1.heap[q]? = some (.cells #[v] 105 (0, 0)) := (hg1.block q (by simp; omega) (own_ne hown hq).symm).trans ((Below.heap_alloc w _ q hqs).trans hq)
  have b1 : Below base w w1 := ((Below.refl base w).alloc (by omega) _).grown hg1 (by simp; omega) (fun k hk => (hown.lt k hk).1)
  obtain ⟨s1, o1⟩ := buf_store r1 hown1
  have z1 := hg1.size
  simp only [World.size_alloc] at z1
  have c1 := cell_of_row w1 q 0 _ _ _ r1
  have f1 := frozen_of_row w1 q 0 _ _ r1
  have q1 : q < w1.heap.size := by omega
  have bb1 : Below base w (w1.setCell ⟨q, 0, none⟩ (.slice A1 (l.length + 1) d1)) := b1.setCell hbq _
  have kk1 : Lib.OthersKept 5 (some q) w (w1.setCell ⟨q, 0, none⟩ (.slice A1 (l.length + 1) d1)) := Lib.OthersKept.setCell (b := q) (((Lib.OthersKept.refl _ _ w).alloc _).grown hg1 (Lib.ownsRow_kind (hown.alloc _))) ⟨q, 0, none⟩ rfl _
  clear hown hq c0 hown1 hg1
  have T1 := appendInt_any base _ (x.size : Int) (by omega) (by have := HL.out; omega) _ _ _ o1 (by simp only [World.size_setCell]; omega) (by have := HL.out; omega) (HT.out.go bb1)
  have O1 := hid o1
  have S1 := hid s1
  clear o1 s1
  go_upto_region 2 with (go_at_call 62; refine T1.mono ?_; rintro e w3 ⟨v3, rfl, hown3, hb3, hk3⟩; obtain ⟨A3, d3, rfl⟩ := own_slice hown3; have r3 := hk3 q _ S1.out (by simp) (by intro c fz h; cases h); have c3 := cell_of_row w3 q 0 _ _ _ r3; have f3 := frozen_of_row w3 q 0 _ _ r3; have q3 := lt_of_heap r3; have OW := hid hown3; have BW := hid hb3; have kk3 : Lib.OthersKept 5 (some q) w w3 := (kk1.trans (fun k o hk _ ho => hk3 k o hk (by simp) ho)); clear hown3 hb3 hk3)
  have hown3 := OW.out
  have hb3 := BW.out
  have z3 := hb3.size
  obtain ⟨s3, o3⟩ := buf_store r3 hown3
  have bb3 : Below base w (w3.setCell ⟨q, 0, none⟩ _) := (bb1.trans hb3).setCell hbq (.slice A3 (l.length + 1 + (Lib.itoa (x.size : Int)).length) d3)
  have hi3 : (Lib.itoa (x.size : Int)).length ≤ 21 := Lib.itoa_length_le _ (by omega) (by have := HL.out; omega)
  have z3' : base ≤ w3.heap.size := by omega
  have kk4 := Lib.OthersKept.setCell (b := q) kk3 ⟨q, 0, none⟩ rfl (.slice A3 (l.length + 1 + (Lib.itoa (x.size : Int)).length) d3)
  clear hown3 hb3 OW BW T1 O1 S1 c1 f1 z1 kk1 kk3
  obtain ⟨w4, hw4⟩ : ∃ w4, w4 = w3.setCell ⟨q, 0, none⟩ (.slice A3 (l.length + 1 + (Lib.itoa (x.size : Int)).length) d3) := ⟨_, rfl⟩
  rw [← hw4] at s3 o3 bb3 kk4 ⊢
  have z4 : base ≤ w4.heap.size := by rw [hw4]; simpa using z3'
  have q4 := lt_of_heap s3
  have c4 := cell_of_row w4 q 0 _ _ _ s3
  clear hw4 c3 f3 q3 z3' z3 r3 bb1 r1 q1
  go_upto_region 3 with (at_builtin; refine wpList_append_own _ rfl _ _ 105 rfl base 5 i0 (.int .u8 0) 1 1 Tryd.underlying105 HI.out HZ0.out HZ1.out HZ2.out rfl (by decide) _ _ _ rfl (o3.alloc _) ⟨w4.heap.size, 0, none⟩ 1 1 [Value.int .u8 58] rfl rfl (by intro j u' hj; match j, hj with | 0, hj => simp at hj; subst hj; simp [Addr.add]) (by intro u' hu'; simp at hu'; subst hu'; rfl) (by unfold maxLen; have := HL.out; omega) (by have := HL.out; omega) (by simp; omega) ?_; intro v5 w5 hown5 hg5 hn5; obtain ⟨A5, d5, rfl⟩ := own_slice hown5; have r5 := (hg5.block q (by simp; omega) (own_ne o3 s3).symm).trans ((Below.heap_alloc w4 _ q q4).trans s3); have b5 : Below base w w5 := ((bb3.alloc z4 _).grown hg5 (by simp; omega) (fun k hk => (o3.lt k hk).1)); have c5 := cell_of_row w5 q 0 _ _ _ r5; have f5 := frozen_of_row w5 q 0 _ _ r5; have q5 := lt_of_heap r5; have OW := hid hown5; have kk5 : Lib.OthersKept 5 (some q) w w5 := ((kk4.alloc _).grown hg5 (Lib.ownsRow_kind (o3.alloc _))); clear hown5 hg5 hn5)
  obtain ⟨s5, o5⟩ := buf_store r5 OW.out
  have bb5 : Below base w (w5.setCell ⟨q, 0, none⟩ _) := b5.setCell hbq (.slice A5 (l.length + 1 + (Lib.itoa (x.size : Int)).length + 1) d5)
  obtain ⟨w6, hw6⟩ : ∃ w6, w6 = w5.setCell ⟨q, 0, none⟩ (.slice A5 (l.length + 1 + (Lib.itoa (x.size : Int)).length + 1) d5) := ⟨_, rfl⟩
  have kk6 := Lib.OthersKept.setCell (b := q) kk5 ⟨q, 0, none⟩ rfl (.slice A5 (l.length + 1 + (Lib.itoa (x.size : Int)).length + 1) d5)
  rw [← hw6] at s5 o5 bb5 kk6 ⊢
  have q6 := lt_of_heap s5
  have z6 : base ≤ w6.heap.size := by omega
  have c6 := cell_of_row w6 q 0 _ _ _ s5
  clear hw6 c5 f5 q5 r5 b5 OW o3 s3 bb3 c4 q4 z4
  go_wp2_with (at_builtin; refine Lib.wpList_append_own_string _ rfl (.tmp 13) (.tmp 14) 105 9 rfl base 5 i0 Tryd.underlying105 Tryd.underlying9 HI.out HZ0.out HZ1.out HZ2.out _ _ _ rfl o5 x rfl (by unfold maxLen; have := HL.out; omega) (by have := HL.out; omega) z6 ?_; intro v7 w7 hown7 hg7 hn7; obtain ⟨A7, d7, rfl⟩ := own_slice hown7; have r7 := (hg7.block q q6 (own_ne o5 s5).symm).trans s5; have b7 : Below base w w7 := (bb5.grown hg7 z6 (fun k hk => (o5.lt k hk).1)); have c7 := cell_of_row w7 q 0 _ _ _ r7; have f7 := frozen_of_row w7 q 0 _ _ r7; have q7 := lt_of_heap r7; have OW := hid hown7; have kk7 : Lib.OthersKept 5 (some q) w w7 := (kk6.grown hg7 (Lib.ownsRow_kind o5)); clear hown7 hg7 hn7)
  obtain ⟨s7, o7⟩ := buf_store r7 OW.out
  refine bodyPost_end (v := .tuple #[]) (by simp [results, Tryd.results63]) rfl ⟨rfl, ⟨_, s7, ?_⟩, b7.setCell hbq _, Lib.OthersKept.setCell (b := q) kk7 ⟨q, 0, none⟩ rfl _⟩
  have e1 : (l ++ txtItem x).length = l.length + 1 + (Lib.itoa (x.size : Int)).length + 1 + x.size := by
    have h0 : x.data.toList.length = x.size := Array.length_toList
    simp only [txtItem, bytesOf, List.length_append, List.length_cons, h0]
    omega
  have e2 : Lib.byteCells (l ++ txtItem x) = Lib.byteCells l ++ [Value.int .u8 32] ++ Lib.byteCells (Lib.itoa (x.size : Int)) ++ [Value.int .u8 58] ++ Lib.strCells x := by
    simp [txtItem, bytesOf, Lib.byteCells, Lib.strCells]
  rw [e1, e2]
  exact o7
end Go.Proofs.YtamcehfcjcmpmaaDoor
