/- A struct in a variable of the call's own, one of whose fields is a slice that grows by append; the reference's Del. -/
import Derived.Test.YtamcehfcjcmpmaaGreatDoorRef3
import Derived.Test.YtamcehfcjcmpmaaGreatDoorApp
namespace Go.Proofs.YtamcehfcjcmpmaaGreatDoor
open Go.RowKit

/-- At block m lies a struct whose field behind 'pre' is a slice of the call's own, of rows behind m, that holds L; below m all is as in W1. -/
structure Acc {α : Type} (enc : α → List Value) (e k : Nat) (W1 wr : World) (m : Nat) (ty : TypeId) (pre post : List Value) (A : Option Addr) (c : Nat) (L : List α) : Prop where
  below : Below m W1 wr
  base : m ≤ W1.heap.size
  row : wr.heap[m]? = some (.cells (pre ++ .slice A L.length c :: post).toArray ty (0, 0))
  own : Own enc e k wr (m + 1) A c L
section
variable {α : Type} {enc : α → List Value} {e k : Nat} {W1 wr : World} {m : Nat} {ty : TypeId} {pre post : List Value} {A : Option Addr} {c : Nat} {L : List α}
theorem Acc.lt (h : Acc enc e k W1 wr m ty pre post A c L) : m < wr.heap.size := lt_of_heap h.row
theorem Acc.cell (h : Acc enc e k W1 wr m ty pre post A c L) (j : Nat) : wr.cell? ⟨m, j, none⟩ = (pre ++ .slice A L.length c :: post)[j]? := by
  rw [cell_of_row wr m j _ _ _ h.row, List.getElem?_toArray]
theorem Acc.frozen (h : Acc enc e k W1 wr m ty pre post A c L) (j : Nat) : wr.frozen? ⟨m, j, none⟩ = false := frozen_of_row wr m j _ _ h.row
theorem Acc.keep {W : World} (h : Acc enc e k W1 wr m ty pre post A c L) (hW : Below wr.heap.size wr W) : Acc enc e k W1 W m ty pre post A c L :=
  ⟨h.below.trans (hW.mono (by have := h.lt; omega)), h.base, (hW.block m h.lt).trans h.row, h.own.below hW⟩
theorem Acc.rows (h : Acc enc e k W1 wr m ty pre post A c L) : ∀ j, rowOf A c = some j → m + 1 ≤ j := by
  intro j hj
  unfold rowOf at hj
  split at hj
  · cases hj
  · rcases h.own.2.2 with h0 | ⟨b, off, cur, hA, hlo, _⟩
    · omega
    · subst hA
      simp at hj
      omega
theorem Acc.mid {W w3 : World} (h : Acc enc e k W1 wr m ty pre post A c L) (hW : Below wr.heap.size wr W) (hgr : W.grownBy w3 (rowOf A c)) : w3.heap[m]? = some (.cells (pre ++ .slice A L.length c :: post).toArray ty (0, 0)) :=
  (hgr.block m (by have := hW.size; have := h.lt; omega) fun hr => by have := h.rows m hr.symm; omega).trans ((hW.block m h.lt).trans h.row)
theorem Acc.push {W w3 : World} {A' : Option Addr} {c' n : Nat} {L' : List α} (h : Acc enc e k W1 wr m ty pre post A c L) (hW : Below wr.heap.size wr W) (hgr : W.grownBy w3 (rowOf A c)) (hown : Own enc e k w3 (m + 1) A' c' L') (hn : n = L'.length) {j : Nat} (hj : j = pre.length) :
    Acc enc e k W1 (w3.setCell ⟨m, j, none⟩ (.slice A' n c')) m ty pre post A' c' L' := by
  subst hn
  have hlt := h.lt
  have hWs := hW.size
  have hmid := h.mid hW hgr
  have hgb : Below m W1 w3 := (h.below.trans (hW.mono (by omega))).grown hgr (by have := h.base; omega) (fun q hq => by have := h.rows q hq; omega)
  refine ⟨hgb.setCell (Nat.le_refl _) _, h.base, ?_, hown.setCell (by show m < m + 1; omega) _⟩
  rw [heap_setCell_same w3 m j _ _ _ hmid]
  subst hj
  congr 2
  simp
end

theorem dropK_succ {key : ByteArray} {l : List Pair} {k : Nat} (hk : k < l.length) : dropK key (l.take (k + 1)) = dropK key (l.take k) ++ (if eqK key l[k] = true then [] else [l[k]]) := by
  rw [List.take_succ_eq_append_getElem hk, dropK, List.filter_append]
  cases h : eqK key l[k] <;> simp [dropK, h]
set_option maxHeartbeats 4000000 in
set_option maxRecDepth 100000 in
theorem refdel_any (s : Shelf) (PA : Option Addr) (pc : Nat) (QA : Option Addr) (qc : Nat) (key : ByteArray) (w : World) (h : ShIn w w.heap.size PA pc QA qc s) (hp : s.pairs.length ≤ 900000) (hq : s.queue.length ≤ 900000) :
    Calls Tryz.prog 42 #[.agg #[.slice PA s.pairs.length pc, .slice QA s.queue.length qc], .string key] w (GivesIn ⟨dropK key s.pairs, s.queue⟩ w) := by
  have H := hid h
  have HP := hid hp
  have HQ := hid hq
  have hpl := h.plen
  have hpm := h.pmax
  clear h hp hq
  obtain ⟨i0, hi0, hz0, hz1, hz2⟩ := info_parts info_pair
  have HI := hid hi0
  have HZ0 := hid hz0
  have HZ1 := hid hz1
  have HZ2 := hid hz2
  clear hi0 hz0 hz1 hz2
  have T0 := Two.start w (.slice PA s.pairs.length pc) (.slice QA s.queue.length qc) 25
  go_enter Tryz.func42, Tryz.ntmps42
  go_wp2_with (at_builtin; refine app_txt (l := []) (m := s.queue) _ rfl (.const (.slice none 0 0)) (.tmp 8) rfl rfl (Own.none_ (lo := w.heap.size)) qc rfl (H.out.queue.below T0.base) (by have := HQ.out; simp; omega) T0.base.size ?_; intro AQ cQ wQ hownQ hgrQ hlocQ)
  have TQ := T0.grown hgrQ (.inl ⟨rfl, rfl⟩)
  have hz := TQ.size
  have oQ := hownQ.up (loc_up hlocQ (B' := w.heap.size + 2) (by simp))
  rw [List.nil_append] at oQ
  have HT := hid TQ
  have HOQ := hid oQ
  have hl1 : w.heap.size < wQ.heap.size := by omega
  have hl2 : w.heap.size + 1 < wQ.heap.size := by omega
  have HST := hid (show Acc Pair.enc 54 2 wQ (wQ.alloc (.cells #[.slice none 0 0, .slice AQ s.queue.length cQ] 25)) wQ.heap.size 25 [] [.slice AQ s.queue.length cQ] none 0 [] from
    ⟨(Below.refl _ _).alloc (Nat.le_refl _) _, Nat.le_refl _, by rw [heap_alloc_if, if_pos rfl]; rfl, Own.none_⟩)
  clear hownQ hgrQ hlocQ TQ oQ T0
  go_wp2_with fail
  go_loopw [6] (fun i wr => ∃ (k : Nat) (A : Option Addr) (c : Nat), k ≤ s.pairs.length ∧ i = .int .i64 k ∧ Acc Pair.enc 54 2 wQ wr wQ.heap.size 25 [] [.slice AQ s.queue.length cQ] A c (dropK key (s.pairs.take k))) (fun i _ => s.pairs.length - (intOf i).toNat)
  case atStart => exact ⟨0, none, 0, Nat.zero_le _, rfl, HST.out⟩
  case round =>
    obtain ⟨k, A, c, hkl, rfl, hacc⟩ := hrel
    obtain ⟨L, hL⟩ : ∃ L, L = dropK key (s.pairs.take k) := ⟨_, rfl⟩
    rw [← hL] at hacc
    have HL := hid hL
    have HLL := hid (show L.length ≤ 900000 by have := HP.out; have := dropK_le (s.pairs.take k) key; rw [hL]; rw [List.length_take] at this; omega)
    have HA := hid hacc
    clear hL
    have bwr := hacc.below
    have hlt0 := hacc.lt
    have c0 : wr.cell? ⟨w.heap.size, 0, none⟩ = some (.slice PA s.pairs.length pc) := (bwr.cell (p := ⟨w.heap.size, 0, none⟩) hl1).trans HT.out.cells.1
    have d0 : wr.cell? ⟨wQ.heap.size, 0, none⟩ = some (.slice A L.length c) := hacc.cell 0
    have d1 : wr.cell? ⟨wQ.heap.size, 1, none⟩ = some (.slice AQ s.queue.length cQ) := hacc.cell 1
    have hbw : Below w.heap.size w wr := HT.out.base.trans (bwr.mono HT.out.base.size)
    have HB := hid bwr
    have HBW := hid hbw
    clear bwr hbw hacc
    by_cases hlt : k < s.pairs.length
    · obtain ⟨b, off, rfl, hB, k0, k1⟩ := (H.out.pairs.below HBW.out).pair hlt
      have hlk : (k : Int) < (s.pairs.length : Int) := by omega
      cases hqe : eqK key s.pairs[k] with
      | true =>
        have he : (s.pairs[k].key.toList == key.toList) = true := hqe
        have HS := hid (show L = dropK key (s.pairs.take (k + 1)) by rw [dropK_succ hlt, hqe, HL.out]; simp)
        clear hqe
        go_wp2_with fail
        refine ⟨⟨k + 1, A, c, by omega, by go_num, by rw [← HS.out]; exact HA.out⟩, by simp [intOf]; omega⟩
      | false =>
        have he : (s.pairs[k].key.toList == key.toList) = false := hqe
        have HS := hid (show L ++ [s.pairs[k]] = dropK key (s.pairs.take (k + 1)) by rw [dropK_succ hlt, hqe, HL.out]; simp)
        clear hqe
        have hbn : b < wr.heap.size := by omega
        go_wp2_with fail
        go_region_law (refine step_append_Own (l := L) (m := [s.pairs[k]]) (A := A) (c := c) (lo := wQ.heap.size + 1) _ rfl (.tmp 27) (.tmp 33) 22 rfl i0 _ 32 Tryz.underlying22 HI.out HZ0.out HZ1.out HZ2.out rfl (by decide) Pair.enc_len Pair.enc_one (by simp [Act.eval]) (HA.out.own.below (by repeat (first | exact Below.refl _ _ | assumption | refine Below.drew ?_ | refine below_drewN ?_ _ | refine Below.alloc ?_ (by first | omega | (simp; done) | (simp; omega)) _ | refine Below.setCell ?_ (by first | omega | (simp; done) | (simp; omega)) _))) (A2 := some ⟨wr.heap.size, 0, none⟩) 1 (by simp [Act.eval]) (arr_onePair (vb := wr.heap.size) (x := s.pairs[k]) (by rw [show ∀ (x : World), x.drew.heap = x.heap from fun _ => rfl, heap_alloc_if, if_pos (by simp)]; rfl)) (by have := HLL.out; unfold maxLen; simp; omega) (by have := HLL.out; simp; omega) (by simp; omega) ?_; intro A' c' w' hown hgr hloc; have hpp := HA.out.mid (by repeat (first | exact Below.refl _ _ | assumption | refine Below.drew ?_ | refine below_drewN ?_ _ | refine Below.alloc ?_ (by first | omega | (simp; done) | (simp; omega)) _ | refine Below.setCell ?_ (by first | omega | (simp; done) | (simp; omega)) _)) hgr; have e31 : w'.cell? ⟨wQ.heap.size, 0, none⟩ = some (.slice A L.length c) := (by rw [cell_of_row w' _ 0 _ _ _ hpp]; rfl); have f31 := frozen_of_row w' _ 0 _ _ hpp)
        all_goals go_wp2
        all_goals
          refine ⟨⟨k + 1, A', c', by omega, by go_num, by rw [← HS.out]; exact HA.out.push (by repeat (first | exact Below.refl _ _ | assumption | refine Below.drew ?_ | refine below_drewN ?_ _ | refine Below.alloc ?_ (by first | omega | (simp; done) | (simp; omega)) _ | refine Below.setCell ?_ (by first | omega | (simp; done) | (simp; omega)) _)) hgr hown (by simp) rfl⟩, by simp [intOf]; omega⟩
    · have hkk : s.pairs.take k = s.pairs := List.take_of_length_le (by omega)
      have HK := hid (show L = dropK key s.pairs by rw [HL.out, hkk])
      clear hkk
      have BO : wr.heap[w.heap.size + 1]? = some (.cells #[.slice none 0 0, .slice none 0 0] 25 (0, 0)) := (HB.out.block _ hl2).trans HT.out.out
      have o0 := cell_of_row wr _ 0 _ _ _ BO
      have o1 := cell_of_row wr _ 1 _ _ _ BO
      have g0 := frozen_of_row wr _ 0 _ _ BO
      have g1 := frozen_of_row wr _ 1 _ _ BO
      have hn1 : ¬ w.heap.size + 1 = wQ.heap.size := by omega
      have hl3 : w.heap.size + 1 < wr.heap.size := by omega
      clear BO
      go_wp2
      have gP := (HA.out.own.setCell (p := ⟨w.heap.size + 1, 0, none⟩) (by show _ < wQ.heap.size + 1; simp; omega) (.slice A L.length c)).setCell (p := ⟨w.heap.size + 1, 1, none⟩) (by show _ < wQ.heap.size + 1; simp; omega) (.slice AQ s.queue.length cQ)
      have oQ : Own txt 9 1 wr (w.heap.size + 2) AQ cQ s.queue := HOQ.out.below HB.out
      have gQ := (oQ.setCell (p := ⟨w.heap.size + 1, 0, none⟩) (by simp) (.slice A L.length c)).setCell (p := ⟨w.heap.size + 1, 1, none⟩) (by simp) (.slice AQ s.queue.length cQ)
      have hB := HBW.out
      rw [← HK.out]
      refine bodyPost_ret (v := .agg #[.slice A L.length c, .slice AQ s.queue.length cQ]) (by simp [results, Tryz.results42, go_sem, o0, o1]) rfl ⟨A, c, AQ, cQ, by simp, ⟨gP.arr Pair.enc_len, gP.len, gP.max, gQ.arr txt_len, gQ.len, gQ.max⟩, ⟨gP.low (by omega), gQ.low (by omega)⟩, (by repeat (first | exact Below.refl _ _ | assumption | refine Below.drew ?_ | refine below_drewN ?_ _ | refine Below.alloc ?_ (by first | omega | (simp; done) | (simp; omega)) _ | refine Below.setCell ?_ (by first | omega | (simp; done) | (simp; omega)) _))⟩
end Go.Proofs.YtamcehfcjcmpmaaGreatDoor
