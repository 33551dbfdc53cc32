/- frames.Answer; the stories that are picked out. -/
import Derived.Test.YtamcehfcjcmpmaaDoorSt2
namespace Go.Proofs.YtamcehfcjcmpmaaDoor
open Go.RowKit

/-- a story's answer in memory: its pairs and its hits -/
structure AnsIn (w : World) (B : Nat) (s : Story) (ps : List Pair) (hs : List Bool) : Prop where
  parr : Arr Pair.enc 2 w B s.pA ps
  plen : s.pn = ps.length
  pcap : ps.length ≤ s.pc
  pmax : s.pc ≤ 9223372036854775807
  harr : Arr bit 1 w B s.hA hs
  hlen : s.hn = hs.length
  hcap : hs.length ≤ s.hc
  hmax : s.hc ≤ 9223372036854775807
theorem AnsIn.below {w w' : World} {B : Nat} {s : Story} {ps : List Pair} {hs : List Bool} (h : AnsIn w B s ps hs) (hb : Below B w w') : AnsIn w' B s ps hs :=
  ⟨h.parr.below hb, h.plen, h.pcap, h.pmax, h.harr.below hb, h.hlen, h.hcap, h.hmax⟩
theorem AnsIn.more {w : World} {B B' : Nat} {s : Story} {ps : List Pair} {hs : List Bool} (h : AnsIn w B s ps hs) (hB : B ≤ B') : AnsIn w B' s ps hs :=
  ⟨h.parr.more hB, h.plen, h.pcap, h.pmax, h.harr.more hB, h.hlen, h.hcap, h.hmax⟩
def ansV (s : Story) : Value := .agg #[.int .i64 s.code, .bool s.fd, .string s.vl, .slice s.pA s.pn s.pc, .slice s.hA s.hn s.hc, .int .u64 s.ep]
/-- an answer as a result -/
def GivesFA (s : Story) (w : World) (e : Ending) (w' : World) : Prop := ∃ PA pn pc HA hn hc, e = .returned (.agg #[.int .i64 s.code, .bool s.fd, .string s.vl, .slice PA pn pc, .slice HA hn hc, .int .u64 s.ep]) ∧ Below w.heap.size w w'
set_option maxHeartbeats 4000000 in
set_option maxRecDepth 100000 in
theorem framesAnswer_any (s : Story) (ps : List Pair) (hs : List Bool) (w : World) (h : AnsIn w w.heap.size s ps hs) (hp : ps.length ≤ 1000000) (hh : hs.length ≤ 1000000) : Calls Tryd.prog 53 #[ansV s] w (GivesFA s w) := by
  obtain ⟨th, c, code, fd, vl, pA, pn, pc, hA, hn, hc, ep, bg, en⟩ := s
  obtain rfl : pn = ps.length := h.plen
  obtain rfl : hn = hs.length := h.hlen
  have H := hid h
  have HP := hid hp
  have HH := hid hh
  clear h hp hh
  unfold ansV
  go_enter Tryd.func53, Tryd.ntmps53
  go_wp2_with fail
  refine (clonePair ps pA pc _ ?_ H.out.pcap H.out.pmax HP.out).mono ?_
  · exact (H.out.parr.below (by repeat (first | exact Below.refl _ _ | assumption | refine Below.drew ?_ | refine below_drewN ?_ _ | refine Below.alloc ?_ (by first | omega | (simp; done) | (simp; omega)) _ | refine Below.setCell ?_ (by first | omega | (simp; done) | (simp; omega)) _))).more (by first | omega | (simp; done) | (simp; omega))
  rintro e w1 ⟨A, cc, rfl, -, hb1⟩
  have hz1 := hb1.size
  simp only [World.size_alloc] at hz1
  have R0 : w1.heap[w.heap.size]? = some (.cells #[.int .i64 code, .bool fd, .string vl, .slice pA ps.length pc, .slice hA hs.length hc, .int .u64 ep] 40 (0, 0)) := (hb1.block _ (by simp; omega)).trans (by rw [heap_alloc_if, if_neg (by simp), heap_alloc_if, if_pos rfl])
  have R1 : w1.heap[w.heap.size + 1]? = some (.cells #[.int .i64 0, .bool false, .string ByteArray.empty, .slice none 0 0, .slice none 0 0, .int .u64 0] 40 (0, 0)) := (hb1.block _ (by simp)).trans (by rw [heap_alloc_if, if_pos (by simp)]; rfl)
  have bw1 : Below w.heap.size w w1 := Below.trans (by repeat (first | exact Below.refl _ _ | assumption | refine Below.drew ?_ | refine below_drewN ?_ _ | refine Below.alloc ?_ (by first | omega | (simp; done) | (simp; omega)) _ | refine Below.setCell ?_ (by first | omega | (simp; done) | (simp; omega)) _)) (hb1.mono (by first | omega | (simp; done) | (simp; omega)))
  have f3 := frozen_of_row w1 _ 3 _ _ R0
  have c3 := cell_of_row w1 _ 3 _ _ _ R0
  have c4 := cell_of_row w1 _ 4 _ _ _ R0
  have hl0 : w.heap.size < w1.heap.size := by omega
  have S0 : (w1.setCell ⟨w.heap.size, 3, none⟩ (.slice A ps.length cc)).heap[w.heap.size]? = some (.cells #[.int .i64 code, .bool fd, .string vl, .slice A ps.length cc, .slice hA hs.length hc, .int .u64 ep] 40 (0, 0)) := by
    have := heap_setCell_same _ (w.heap.size) 3 _ _ (.slice A ps.length cc) R0
    exact this
  have S1 : (w1.setCell ⟨w.heap.size, 3, none⟩ (.slice A ps.length cc)).heap[w.heap.size + 1]? = _ := (Below.heap_setCell _ _ _ _ (by simp)).trans R1
  have RS := hid R0
  have RT := hid R1
  have SS := hid S0
  have ST := hid S1
  clear R0 R1 S0 S1 hb1
  go_wp2_with fail
  refine (cloneBit hs hA hc _ ?_ H.out.hcap H.out.hmax HH.out).mono ?_
  · exact (H.out.harr.below (by repeat (first | exact Below.refl _ _ | assumption | refine Below.drew ?_ | refine below_drewN ?_ _ | refine Below.alloc ?_ (by first | omega | (simp; done) | (simp; omega)) _ | refine Below.setCell ?_ (by first | omega | (simp; done) | (simp; omega)) _))).more (by simp only [World.size_setCell]; omega)
  rintro e w2 ⟨A2, cc2, rfl, -, hb2⟩
  have hz2 := hb2.size
  simp only [World.size_setCell] at hz2
  have T0 := (hb2.block w.heap.size (by simp only [World.size_setCell]; omega)).trans SS.out
  have T1 := (hb2.block (w.heap.size + 1) (by simp only [World.size_setCell]; omega)).trans ST.out
  have bw2 : Below w.heap.size w w2 := Below.trans (bw1.setCell (by show w.heap.size ≤ w.heap.size; omega) _) (hb2.mono (by simp only [World.size_setCell]; omega))
  have x0 := cell_of_row w2 _ 0 _ _ _ T0
  have x1 := cell_of_row w2 _ 1 _ _ _ T0
  have x2 := cell_of_row w2 _ 2 _ _ _ T0
  have x3 := cell_of_row w2 _ 3 _ _ _ T0
  have x4 := cell_of_row w2 _ 4 _ _ _ T0
  have x5 := cell_of_row w2 _ 5 _ _ _ T0
  have e4 := frozen_of_row w2 _ 4 _ _ T0
  have y0 := cell_of_row w2 _ 0 _ _ _ T1
  have y1 := cell_of_row w2 _ 1 _ _ _ T1
  have y2 := cell_of_row w2 _ 2 _ _ _ T1
  have y3 := cell_of_row w2 _ 3 _ _ _ T1
  have y4 := cell_of_row w2 _ 4 _ _ _ T1
  have y5 := cell_of_row w2 _ 5 _ _ _ T1
  have g0 := frozen_of_row w2 _ 0 _ _ T1
  have g1 := frozen_of_row w2 _ 1 _ _ T1
  have g2 := frozen_of_row w2 _ 2 _ _ T1
  have g3 := frozen_of_row w2 _ 3 _ _ T1
  have g4 := frozen_of_row w2 _ 4 _ _ T1
  have g5 := frozen_of_row w2 _ 5 _ _ T1
  have hl1 : w.heap.size + 1 < w2.heap.size := by omega
  have hl2 : w.heap.size < w2.heap.size := by omega
  clear hb2 T0 T1 bw1 c3 c4 f3
  go_wp2_with fail
  refine bodyPost_ret (v := .agg #[.int .i64 code, .bool fd, .string vl, .slice A ps.length cc, .slice A2 hs.length cc2, .int .u64 ep]) (by simp [results, Tryd.results53, go_sem, y0, y1, y2, y3, y4, y5]) rfl ⟨A, ps.length, cc, A2, hs.length, cc2, rfl, ?_⟩
  exact (by repeat (first | with_reducible exact Below.refl _ _ | with_reducible assumption | with_reducible refine Below.drew ?_ | with_reducible refine below_drewN ?_ _ | with_reducible refine Below.alloc ?_ (by first | omega | (simp; done) | (simp; omega)) _ | with_reducible refine Below.setCell ?_ (by first | omega | (simp; done) | (simp; omega)) _))
end Go.Proofs.YtamcehfcjcmpmaaDoor
