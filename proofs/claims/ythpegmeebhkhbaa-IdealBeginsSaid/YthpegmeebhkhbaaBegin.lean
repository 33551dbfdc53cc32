/- ideal.Begin: of a call without a group; of a call with one. -/
import Derived.Test.YthpegmeebhkhbaaCalls
import Derived.Deep.MidRow
namespace Go.Proofs.Ythpegmeebhkhbaa
open Go.RowKit

/-- a call's first frame, its cells -/
def frameL (kind : Int) (key val to' : ByteArray) (A : Option Addr) (n c : Nat) : List Value :=
  [.int .i64 kind, .string key, .string val, .string to', .slice A n c, .int .i64 0, .int .u64 0, .string ByteArray.empty, .bool false, .int .i64 0, .bool false, .string ByteArray.empty, .int .u64 0, .int .u64 0, .int .i64 0, .int .i64 0,
    .int .i64 (-1), .int .i64 0, .int .i64 0, .slice none 0 0, .int .i64 0, .slice none 0 0, .int .i64 0, .bool false, .string ByteArray.empty, .slice none 0 0, .slice none 0 0, .int .u64 0]
theorem frame_one (kind : Int) (key val to' : ByteArray) (A : Option Addr) (n c : Nat) : ∀ v ∈ frameL kind key val to' A n c, v.oneCell' = true := by
  intro v hv
  unfold frameL at hv
  repeat (rcases List.mem_cons.1 hv with rfl | hv; rfl)
  cases hv
theorem frame_size : (Try.prog.info? 71).map (·.size) = some 28 := by kernel_rfl
theorem there_of_row {w : World} {b : Nat} {cur : Array Value} {e : TypeId} {n : Nat} (h : w.heap[b]? = some (.cells cur e (0, 0))) (hn : cur.size = n) : w.there b 0 n := fun j hj => by
  rw [Nat.zero_add, cell_of_row w b j cur e _ h]
  exact ⟨by rw [Array.getElem?_eq_getElem (by omega)]; rfl, frozen_of_row w b j cur e h⟩
theorem results_cell_mid {P : Program} {fn : Func} {p : Tmp} {ty : TypeId} (h : fn.results = #[.cell p ty]) (tmps : Array Value) (w : World) (b : Nat) (cs : List Value) (d : TypeDesc)
    (hp : tmps.getD p undef = .pointer (some ⟨b, 0, none⟩)) (hc : w.rangeAt b 0 cs) (hu : P.underlying ty = some d) (hd : d.isRow = true) (hi : (P.info? ty).map (·.size) = some cs.length) : (results fn tmps).run P w = .ok (.agg cs.toArray) w := by
  have hp' : tmps[p]?.getD undef = .pointer (some ⟨b, 0, none⟩) := by simpa using hp
  simp [results, h, hp', asAddr, run_loadVar_mid w b 0 ty cs d hc hu hd hi]
theorem below_setCells' {B b : Nat} (hb : B ≤ b) : ∀ (vs : List Value) (o : Nat) {a : World} (w : World), Below B a w → Below B a (w.setCells b o vs)
  | [], _, _, _, h => h
  | v :: r, o, _, _, h => below_setCells' hb r (o + 1) _ (h.setCell (p := ⟨b, o, none⟩) hb v)
def GivesFrame0 (kind : Int) (key val to' : ByteArray) (w : World) (e : Ending) (w' : World) : Prop :=
  ∃ A c, e = .returned (.agg (frameL kind key val to' A 0 c).toArray) ∧ c ≤ 9223372036854775807 ∧ Below w.heap.size w w'
set_option maxHeartbeats 1000000 in
set_option maxRecDepth 100000 in
theorem begin_flat (kind : Int) (key val to' : ByteArray) (A : Option Addr) (c : Nat) (w : World) (hm : c ≤ 9223372036854775807) :
    Calls Try.prog 40 #[.agg #[.int .i64 kind, .string key, .string val, .string to', .slice A 0 c]] w (GivesFrame0 kind key val to' w) := by
  go_enter Try.func40, Try.ntmps40
  go_wp2_with fail
  refine (cloneCall [] A c _ Arr.nil (Nat.zero_le _) hm (by simp)).mono ?_
  rintro e w1 ⟨A1, c1, rfl, hown, hb1⟩
  simp only [List.length_nil]
  have hz := hb1.size
  simp only [World.size_alloc] at hz
  have hc1 := hown.max
  have BX : w1.heap[w.heap.size]? = some (.cells #[.int .i64 kind, .string key, .string val, .string to', .slice A 0 c] 50 (0, 0)) := (hb1.block _ (by simp; omega)).trans (by rw [heap_alloc_if, if_neg (by simp), heap_alloc_if, if_pos rfl])
  obtain ⟨cur, BY, hcur⟩ : ∃ cur, w1.heap[w.heap.size + 1]? = some (.cells cur 71 (0, 0)) ∧ cur.size = 28 := ⟨_, (hb1.block _ (by simp)).trans (by rw [heap_alloc_if, if_pos (by simp)]), rfl⟩
  have x0 := cell_of_row w1 _ 0 _ _ _ BX
  have x1 := cell_of_row w1 _ 1 _ _ _ BX
  have x2 := cell_of_row w1 _ 2 _ _ _ BX
  have x3 := cell_of_row w1 _ 3 _ _ _ BX
  have x4 := cell_of_row w1 _ 4 _ _ _ BX
  have f4 := frozen_of_row w1 _ 4 _ _ BX
  have hl1 : w.heap.size < w1.heap.size := by omega
  have hl2 : w.heap.size + 1 < w1.heap.size := by omega
  have bw1 : Below w.heap.size w w1 := Below.trans (by repeat (first | exact Below.refl _ _ | assumption | refine Below.drew ?_ | refine below_drewN ?_ _ | refine Below.alloc ?_ (by first | omega | (simp; done) | (simp; omega)) _ | refine Below.setCell ?_ (by first | omega | (simp; done) | (simp; omega)) _)) (hb1.mono (show w.heap.size ≤ _ from (by first | omega | (simp; done) | (simp; omega))))
  have HCU := hid hcur
  clear hown hb1 hcur
  go_wp2_with fail
  obtain ⟨W, hW⟩ : ∃ W, W = w1.setCell ⟨w.heap.size, 4, none⟩ (.slice A1 0 c1) := ⟨_, rfl⟩
  rw [← hW]
  have y0 : W.cell? ⟨w.heap.size, 0, none⟩ = some (.int .i64 kind) := by rw [hW]; simp [go_sem, x0]
  have y1 : W.cell? ⟨w.heap.size, 1, none⟩ = some (.string key) := by rw [hW]; simp [go_sem, x1]
  have y2 : W.cell? ⟨w.heap.size, 2, none⟩ = some (.string val) := by rw [hW]; simp [go_sem, x2]
  have y3 : W.cell? ⟨w.heap.size, 3, none⟩ = some (.string to') := by rw [hW]; simp [go_sem, x3]
  have y4 : W.cell? ⟨w.heap.size, 4, none⟩ = some (.slice A1 0 c1) := by rw [hW]; simp [go_sem, x4]
  have bwW : Below w.heap.size w W := by rw [hW]; exact bw1.setCell (Nat.le_refl _) _
  have BYW : W.heap[w.heap.size + 1]? = some (.cells cur 71 (0, 0)) := by
    rw [hW]
    exact (Below.heap_setCell _ _ _ _ (by show w.heap.size + 1 ≠ w.heap.size; omega)).trans BY
  clear hW x0 x1 x2 x3 x4 f4 BX BY bw1
  have HT := hid (there_of_row BYW HCU.out)
  have HB := hid bwW
  clear BYW bwW
  go_loopw [12] (fun vi wr => vi = .int .i64 0 ∧ wr = W) (fun _ _ => 0)
  case atStart => exact ⟨rfl, rfl⟩
  case round =>
    obtain ⟨rfl, rfl⟩ := hrel
    have HS := hid (all_oneCell_toArray (frame_one kind key val to' A1 0 c1))
    go_wp2_with (refine wpList_store_mid (by first | rfl | (exfalso; fail)) 71 (.tmp 2) (.tmp 28) (by first | rfl | fail) (w.heap.size + 1) 0 (frameL kind key val to' A1 0 c1).toArray rfl (by rfl) HT.out frame_size HS.out ?_)
    refine bodyPost_ret (v := .agg (frameL kind key val to' A1 0 c1).toArray) ?_ rfl ⟨A1, c1, rfl, hc1, ?_⟩
    · exact results_cell_mid Try.results40 _ _ (w.heap.size + 1) _ _ rfl (World.rangeAt_setCells_same wr (w.heap.size + 1) 0 (frameL kind key val to' A1 0 c1) HT.out) Try.underlying71 rfl frame_size
    · exact below_setCells' (by omega) _ _ _ HB.out
end Go.Proofs.Ythpegmeebhkhbaa
