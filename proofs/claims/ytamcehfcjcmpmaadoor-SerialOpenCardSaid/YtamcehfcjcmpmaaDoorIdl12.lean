/- The doing of what is put in line. -/
import Derived.Test.YtamcehfcjcmpmaaDoorIdl11
namespace Go.Proofs.YtamcehfcjcmpmaaDoor
open Go.RowKit

theorem arr_one_txt {w : World} {vb : Nat} {x : ByteArray} (hv : w.heap[vb]? = some (.cells #[.string x] 9 (0, 0))) : Arr txt 1 w w.heap.size (some ⟨vb, 0, none⟩) [x] := by
  refine Arr.of_cells txt_len (lt_of_heap hv) fun j u hu => ?_
  rw [Nat.zero_add, cell_of_row w vb j _ _ _ hv]
  simpa [txt] using hu
set_option maxHeartbeats 2000000 in
theorem do_enq (K : Nat → Prop) (p q : Nat) (s : Shelf) (a : Ans) (c : Call0) (w : World) (h : SA K w p q s a) (hK : ∀ j, w.heap.size ≤ j → K j) (hl : s.queue.length ≤ 100000) :
    Calls Tryd.prog 44 #[.pointer (some ⟨p, 0, none⟩), .agg #[.int .i64 c.kind, .string c.key, .string c.val, .string c.to, .slice c.gA c.gn c.gc], .pointer (some ⟨q, 0, none⟩)] w
      (GivesDo K p q ⟨s.pairs, s.queue ++ [c.val]⟩ a w) := by
  have hb0 : Below w.heap.size w (w.alloc (.cells #[.int .i64 c.kind, .string c.key, .string c.val, .string c.to, .slice c.gA c.gn c.gc] 33)) := (Below.refl _ w).alloc (Nat.le_refl _) _
  obtain ⟨F, hS, hF, hST⟩ := (h.below hb0).part (fun j hj => hK j (by simp at hj; omega))
  obtain ⟨PA, pc, QA, qc, h1, h2, h3, h4, h5⟩ := hS
  have hp0 : p < w.heap.size + 1 := by have := lt_of_heap h1; simpa using this
  have c1 : (w.alloc (.cells #[.int .i64 c.kind, .string c.key, .string c.val, .string c.to, .slice c.gA c.gn c.gc] 33)).cell? ⟨p, 1, none⟩ = some (.slice QA s.queue.length qc) := by rw [cell_of_row _ p 1 _ _ _ h1]; rfl
  obtain ⟨i0, hi0, hz0, hz1, hz2⟩ := info_parts info_string
  obtain ⟨W, hW⟩ : ∃ W, W = (w.alloc (.cells #[.int .i64 c.kind, .string c.key, .string c.val, .string c.to, .slice c.gA c.gn c.gc] 33)) := ⟨_, rfl⟩
  have HO := hid h2
  have H1 := hid h1
  have H4 := hid h4
  have H5 := hid h5
  have HFr := hid hF
  have HST := hid hST
  have HB := hid (Only.of_below (F := K) hb0)
  have HL := hid hl
  have HI := hid hi0
  have HZ0 := hid hz0
  have HZ1 := hid hz1
  have HZ2 := hid hz2
  clear h hK hF hST hb0 h1 h2 h4 h5 hi0 hz0 hz1 hz2 hl
  go_enter Tryd.func44, Tryd.ntmps44
  go_wp2_with fail
  go_region_law (refine step_append_Own (l := s.queue) (m := [c.val]) (A := QA) (c := qc) (lo := 0) _ rfl (.tmp 10) (.tmp 13) 23 rfl i0 _ 16 Tryd.underlying23 HI.out HZ0.out HZ1.out HZ2.out rfl (by decide) txt_len txt_one (by simp [Act.eval]) (HO.out.queue.below (by repeat (first | exact Below.refl _ _ | assumption | refine Below.drew ?_ | refine below_drewN ?_ _ | refine Below.alloc ?_ (by first | omega | (simp; done) | (simp; omega)) _ | refine Below.setCell ?_ (by first | omega | (simp; done) | (simp; omega)) _))) (A2 := some ⟨w.heap.size + 1, 0, none⟩) 1 (by simp [Act.eval]) (arr_one_txt (vb := w.heap.size + 1) (x := c.val) (by rw [show ∀ (x : World), x.drew.heap = x.heap from fun _ => rfl, heap_alloc_if, if_pos (by simp)])) (by have := HL.out; unfold maxLen; simp; omega) (by have := HL.out; simp; omega) (Nat.zero_le _) ?_; intro A' c' w' hown hgr hloc; have hp3 : w'.heap[p]? = some (.cells #[.slice PA s.pairs.length pc, .slice QA s.queue.length qc] 25 (0, 0)) := (hgr.block p (by simp; omega) fun hr => (HO.out.queue.row H5.out p hr.symm).2 rfl).trans ((Below.heap_alloc _ _ p (by simp; omega)).trans H1.out); have e31 : w'.cell? ⟨p, 1, none⟩ = some (.slice QA s.queue.length qc) := (by rw [cell_of_row w' p 1 _ _ _ hp3]; rfl); have f31 := frozen_of_row w' p 1 _ _ hp3)
  all_goals
    go_wp2
    refine bodyPost_ret (v := .tuple #[]) (by simp [results, Tryd.results44]) rfl ?_
    obtain ⟨r1, r2⟩ := Store.putQueue H1.out HO.out h3 H4.out H5.out HFr.out (by repeat (first | exact Below.refl _ _ | assumption | refine Below.drew ?_ | refine below_drewN ?_ _ | refine Below.alloc ?_ (by first | omega | (simp; done) | (simp; omega)) _ | refine Below.setCell ?_ (by first | omega | (simp; done) | (simp; omega)) _)) hgr hown hloc (by simp : s.queue.length + [c.val].length = _)
    obtain ⟨r3, r4⟩ := HST.out _ _ r1 r2
    exact ⟨rfl, r3, HB.out.trans r4⟩
end Go.Proofs.YtamcehfcjcmpmaaDoor
