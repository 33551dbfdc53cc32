/- The reference's pop. -/
import Derived.Test.YtamcehfcjcmpmaaGreatDoorRef2
namespace Go.Proofs.YtamcehfcjcmpmaaGreatDoor
open Go.RowKit

set_option maxHeartbeats 4000000 in
set_option maxRecDepth 100000 in
theorem refpop_any (s : Shelf) (PA : Option Addr) (pc : Nat) (QA : Option Addr) (qc : Nat) (w : World) (h : ShIn w w.heap.size PA pc QA qc s) (hp : s.pairs.length ≤ 900000) (hq : s.queue.length ≤ 900000) :
    Calls Tryz.prog 44 #[.agg #[.slice PA s.pairs.length pc, .slice QA s.queue.length qc]] w (GivesIn ⟨s.pairs, s.queue.tail⟩ w) := by
  have H := hid h
  have HP := hid hp
  have HQ := hid hq
  have hql := h.qlen
  have hqm := h.qmax
  clear h hp hq
  obtain ⟨pairs, queue⟩ := s
  have T0 := Two.start w (.slice PA pairs.length pc) (.slice QA queue.length qc) 25
  cases queue with
  | nil =>
    simp only [List.length_nil] at *
    go_enter Tryz.func44, Tryz.ntmps44
    go_wp2_with (at_builtin; refine app_pair (l := []) (m := pairs) _ rfl (.const (.slice none 0 0)) (.tmp 5) rfl rfl (Own.none_ (lo := w.heap.size)) pc rfl (H.out.pairs.below T0.base) (by have := HP.out; simp; omega) T0.base.size ?_; intro AP cP wP hownP hgrP hlocP; have TP := T0.grown hgrP (.inl ⟨rfl, rfl⟩); have hz := TP.size; have hl1 : w.heap.size < wP.heap.size := (by omega); have hl2 : w.heap.size + 1 < wP.heap.size := (by omega); have c1 := TP.cells.2; have o0 := cell_of_row wP _ 0 _ _ _ TP.out; have o1 := cell_of_row wP _ 1 _ _ _ TP.out; have g0 := frozen_of_row wP _ 0 _ _ TP.out; have g1 := frozen_of_row wP _ 1 _ _ TP.out; have hn1 : ¬ w.heap.size = wP.heap.size := (by omega); have hn2 : ¬ w.heap.size + 1 = wP.heap.size := (by omega))
    go_wp2
    have oP := hownP.up (loc_up hlocP (B' := w.heap.size + 2) (by simp))
    rw [List.nil_append] at oP
    have gP := ((oP.setCell (p := ⟨w.heap.size + 1, 0, none⟩) (by simp) (.slice AP pairs.length cP)).setCell (p := ⟨w.heap.size + 1, 1, none⟩) (by simp) (.slice none 0 0)).alloc (.cells #[.slice AP pairs.length cP, .slice none 0 0] 25)
    have hB := TP.base
    refine bodyPost_ret (v := .agg #[.slice AP pairs.length cP, .slice none 0 0]) (by simp [results, Tryz.results44, go_sem, o0, o1, hl2]) rfl ⟨AP, cP, none, 0, by simp, ⟨gP.arr Pair.enc_len, gP.len, gP.max, Arr.nil, by simp, by simp⟩, ⟨gP.low (by omega), .inl rfl⟩, (by repeat (first | exact Below.refl _ _ | assumption | refine Below.drew ?_ | refine below_drewN ?_ _ | refine Below.alloc ?_ (by first | omega | (simp; done) | (simp; omega)) _ | refine Below.setCell ?_ (by first | omega | (simp; done) | (simp; omega)) _))⟩
  | cons v q =>
    simp only [List.length_cons] at *
    obtain ⟨b, off, rfl, hB, -⟩ := H.out.queue.txt1 (i := 0) (by simp)
    have HAX := hid (fun (hne : ¬ qc = 1) => show Arr txt 1 w w.heap.size (some ⟨b, off + 1, none⟩) q from by
      have := H.out.queue.drop (m := 1) (c := qc) (by simp) (by simpa using hql)
      simpa [hne, Addr.add] using this)
    by_cases hq1 : qc = 1
    case pos =>
      subst hq1
      obtain rfl : q = [] := List.eq_nil_of_length_eq_zero (by omega)
      go_enter Tryz.func44, Tryz.ntmps44
      go_wp2_with (at_builtin; refine app_pair (l := []) (m := pairs) _ rfl (.const (.slice none 0 0)) (.tmp 5) rfl rfl (Own.none_ (lo := w.heap.size)) pc rfl (H.out.pairs.below T0.base) (by have := HP.out; simp; omega) T0.base.size ?_; intro AP cP wP hownP hgrP hlocP; have TP := T0.grown hgrP (.inl ⟨rfl, rfl⟩); have hz := TP.size; have hl1 : w.heap.size < wP.heap.size := (by omega); have hl2 : w.heap.size + 1 < wP.heap.size := (by omega); have c1 := TP.cells.2; have o0 := cell_of_row wP _ 0 _ _ _ TP.out; have o1 := cell_of_row wP _ 1 _ _ _ TP.out; have g0 := frozen_of_row wP _ 0 _ _ TP.out; have g1 := frozen_of_row wP _ 1 _ _ TP.out; have hn1 : ¬ w.heap.size = wP.heap.size := (by omega); have hn2 : ¬ w.heap.size + 1 = wP.heap.size := (by omega))
      go_wp2
      have oP := hownP.up (loc_up hlocP (B' := w.heap.size + 2) (by simp))
      rw [List.nil_append] at oP
      have gP := ((oP.setCell (p := ⟨w.heap.size + 1, 0, none⟩) (by simp) (.slice AP pairs.length cP)).setCell (p := ⟨w.heap.size + 1, 1, none⟩) (by simp) (.slice none 0 0)).alloc (.cells #[.slice AP pairs.length cP, .slice none 0 0] 25)
      have hB := TP.base
      refine bodyPost_ret (v := .agg #[.slice AP pairs.length cP, .slice none 0 0]) (by simp [results, Tryz.results44, go_sem, o0, o1, hl2]) rfl ⟨AP, cP, none, 0, by simp, ⟨gP.arr Pair.enc_len, gP.len, gP.max, Arr.nil, by simp, by simp⟩, ⟨gP.low (by omega), .inl rfl⟩, (by repeat (first | exact Below.refl _ _ | assumption | refine Below.drew ?_ | refine below_drewN ?_ _ | refine Below.alloc ?_ (by first | omega | (simp; done) | (simp; omega)) _ | refine Below.setCell ?_ (by first | omega | (simp; done) | (simp; omega)) _))⟩
    case neg =>
      go_enter Tryz.func44, Tryz.ntmps44
      go_wp2_with (first | (at_builtin; refine app_pair (l := []) (m := pairs) _ rfl (.const (.slice none 0 0)) (.tmp 5) rfl rfl (Own.none_ (lo := w.heap.size)) pc rfl (H.out.pairs.below T0.base) (by have := HP.out; simp; omega) T0.base.size ?_; intro AP cP wP hownP hgrP hlocP; have TP := T0.grown hgrP (.inl ⟨rfl, rfl⟩); have hz := TP.size; have hl1 : w.heap.size < wP.heap.size := (by omega); have hl2 : w.heap.size + 1 < wP.heap.size := (by omega); have c1 := TP.cells.2; have o0 := cell_of_row wP _ 0 _ _ _ TP.out; have o1 := cell_of_row wP _ 1 _ _ _ TP.out; have g0 := frozen_of_row wP _ 0 _ _ TP.out; have g1 := frozen_of_row wP _ 1 _ _ TP.out; have hn1 : ¬ w.heap.size = wP.heap.size := (by omega); have hn2 : ¬ w.heap.size + 1 = wP.heap.size := (by omega)) | (at_builtin; refine app_txt (l := []) (m := q) _ rfl (.const (.slice none 0 0)) (.tmp 14) rfl rfl (Own.none_ (lo := w.heap.size)) (qc - 1) rfl ((HAX.out hq1).below (TP.base.alloc TP.base.size _)) (by have := HQ.out; simp; omega) (by simp; omega) ?_; intro AQ cQ wQ hownQ hgrQ hlocQ; have hb3 : wQ.heap[wP.heap.size]? = some (.cells #[.slice AP pairs.length cP, .slice none 0 0] 25 (0, 0)) := (hgrQ.block _ (by simp) (by simp [rowOf])).trans (by rw [heap_alloc_if, if_pos rfl]); have hb2 : wQ.heap[w.heap.size + 1]? = some (.cells #[.slice none 0 0, .slice none 0 0] 25 (0, 0)) := (hgrQ.block _ (by simp; omega) (by simp [rowOf])).trans ((Below.heap_alloc _ _ _ hl2).trans TP.out); have k0 := cell_of_row wQ _ 0 _ _ _ hb2; have k1 := cell_of_row wQ _ 1 _ _ _ hb2; have u0 := frozen_of_row wQ _ 0 _ _ hb2; have u1 := frozen_of_row wQ _ 1 _ _ hb2; have m0 := cell_of_row wQ _ 0 _ _ _ hb3; have m1 := cell_of_row wQ _ 1 _ _ _ hb3; have v0 := frozen_of_row wQ _ 0 _ _ hb3; have v1 := frozen_of_row wQ _ 1 _ _ hb3; have hn3 : ¬ wP.heap.size = w.heap.size + 1 := (by omega)))
      have oP := hownP.up (loc_up hlocP (B' := w.heap.size + 2) (by simp))
      rw [List.nil_append] at oP
      have fP := (oP.alloc (.cells #[.slice AP pairs.length cP, .slice none 0 0] 25)).grown hgrQ (fun b off _ => by simp [rowOf])
      have oQ := hownQ.up (loc_up hlocQ (B' := wP.heap.size + 1) (by simp))
      rw [List.nil_append] at oQ
      have hB : Below w.heap.size w wQ := belowG hgrQ (TP.base.alloc TP.base.size _)
      have fP2 := fP.keep2 (w' := wQ.setCell ⟨wP.heap.size, 1, none⟩ (.slice AQ q.length cQ)) (by
        rcases hownP.lt with h | ⟨b1, o1, hA, _, hlt⟩
        · exact .inl h
        · exact .inr fun b2 o2 hA2 _ => Below.heap_setCell _ _ _ _ (by rw [hA] at hA2; cases hA2; show b1 ≠ wP.heap.size; omega))
      have gP := (fP2.setCell (p := ⟨w.heap.size + 1, 0, none⟩) (by simp) (.slice AP pairs.length cP)).setCell (p := ⟨w.heap.size + 1, 1, none⟩) (by simp) (.slice AQ q.length cQ)
      have gQ := ((oQ.setCell (p := ⟨wP.heap.size, 1, none⟩) (by simp) (.slice AQ q.length cQ)).setCell (p := ⟨w.heap.size + 1, 0, none⟩) (by simp; omega) (.slice AP pairs.length cP)).setCell (p := ⟨w.heap.size + 1, 1, none⟩) (by simp; omega) (.slice AQ q.length cQ)
      refine bodyPost_ret (v := .agg #[.slice AP pairs.length cP, .slice AQ q.length cQ]) (by simp [results, Tryz.results44, go_sem, k0, k1]) rfl ⟨AP, cP, AQ, cQ, by simp, ⟨gP.arr Pair.enc_len, gP.len, gP.max, gQ.arr txt_len, gQ.len, gQ.max⟩, ⟨gP.low (by omega), gQ.low (by omega)⟩, (by repeat (first | exact Below.refl _ _ | assumption | refine Below.drew ?_ | refine below_drewN ?_ _ | refine Below.alloc ?_ (by first | omega | (simp; done) | (simp; omega)) _ | refine Below.setCell ?_ (by first | omega | (simp; done) | (simp; omega)) _))⟩
end Go.Proofs.YtamcehfcjcmpmaaGreatDoor
