/- The reference's Put of a key that has a value. -/
import Derived.Test.YtamcehfcjcmpmaaGreatDoorAcc
import Derived.Test.YtamcehfcjcmpmaaGreatDoorRef1
namespace Go.Proofs.YtamcehfcjcmpmaaGreatDoor
open Go.RowKit

theorem mod_succ {l : List Pair} {k i : Nat} {f : Pair → Pair} (hk : k < l.length) : (l.take (k + 1)).modify i f = (l.take k).modify i f ++ [if k = i then f l[k] else l[k]] := by
  rw [List.take_succ_eq_append_getElem hk]
  apply List.ext_getElem
  · simp; omega
  · intro j h1 h2
    simp only [List.length_modify, List.length_append, List.length_take, List.length_cons, List.length_nil] at h1
    rw [List.getElem_modify]
    by_cases hj : j < k
    · rw [List.getElem_append_left (by simp; omega), List.getElem_append_left (by simp; omega), List.getElem_modify]
    · have : j = k := by omega
      subst this
      rw [List.getElem_append_right (by simp; omega), List.getElem_append_right (by simp; omega)]
      simp only [List.length_take, List.length_modify, Nat.min_eq_left (Nat.le_of_lt hk), Nat.sub_self, List.getElem_cons_zero]
      by_cases h : i = j <;> simp [h, eq_comm]
theorem set_had {l : List Pair} {key val : ByteArray} (h : l.findIdx (eqK key) < l.length) : setP l key val = l.modify (l.findIdx (eqK key)) fun p => ⟨p.key, val⟩ := by rw [setP, if_pos h]
set_option maxHeartbeats 4000000 in
set_option maxRecDepth 100000 in
theorem refput_had (s : Shelf) (PA : Option Addr) (pc : Nat) (QA : Option Addr) (qc : Nat) (key val : ByteArray) (w : World) (h : ShIn w w.heap.size PA pc QA qc s) (hp : s.pairs.length ≤ 900000) (hq : s.queue.length ≤ 900000)
    (hh : s.pairs.findIdx (eqK key) < s.pairs.length) :
    Calls Tryz.prog 41 #[.agg #[.slice PA s.pairs.length pc, .slice QA s.queue.length qc], .string key, .string val] w (GivesIn ⟨setP s.pairs key val, s.queue⟩ w) := by
  have H := hid h
  have HP := hid hp
  have HQ := hid hq
  have hpl := h.plen
  have hpm := h.pmax
  obtain ⟨i, hi⟩ : ∃ i, i = s.pairs.findIdx (eqK key) := ⟨_, rfl⟩
  have hilt : i < s.pairs.length := by omega
  have HSET := hid (show setP s.pairs key val = s.pairs.modify i fun p => ⟨p.key, val⟩ by rw [hi]; exact set_had hh)
  have HHIT := hid (show eqK key (s.pairs[i]'hilt) = true by subst hi; exact List.findIdx_getElem)
  have HLOW := hid (show ∀ j, (hj : j < s.pairs.length) → j < i → eqK key s.pairs[j] = false from fun j hj hlt => by
    have := List.not_of_lt_findIdx (p := eqK key) (xs := s.pairs) (i := j) (by omega)
    simpa using this)
  have HHAD := hid (show (getD' s.pairs key).2 = true by rw [getD'_hasK, hasK, decide_eq_true_iff]; exact hh)
  clear h hp hq hh hi
  obtain ⟨i0, hi0, hz0, hz1, hz2⟩ := info_parts info_pair
  have HI := hid hi0
  have HZ0 := hid hz0
  have HZ1 := hid hz1
  have HZ2 := hid hz2
  clear hi0 hz0 hz1 hz2
  have T0 := Two.start w (.slice PA s.pairs.length pc) (.slice QA s.queue.length qc) 25
  go_enter Tryz.func41, Tryz.ntmps41
  go_wp2_with fail
  refine (refget_any s PA pc QA s.queue.length qc key _ ((H.out.pairs.below T0.base).more T0.base.size) hpl hpm).mono ?_
  rintro e w1 ⟨rfl, hb1⟩
  rw [HHAD.out]
  have T1 : Two w w1 (.slice PA s.pairs.length pc) (.slice QA s.queue.length qc) 25 := ⟨T0.base.trans (hb1.mono T0.base.size), Nat.le_trans T0.size hb1.size, (hb1.block _ (by have := T0.size; omega)).trans T0.box, (hb1.block _ (by have := T0.size; omega)).trans T0.out⟩
  clear hb1 T0
  have c1 := T1.cells.2
  go_wp2_with (at_builtin; refine app_txt (l := []) (m := s.queue) _ rfl (.const (.slice none 0 0)) (.tmp 20) rfl rfl (Own.none_ (lo := w.heap.size)) qc rfl (H.out.queue.below T1.base) (by have := HQ.out; simp; omega) T1.base.size ?_; intro AQ cQ wQ hownQ hgrQ hlocQ)
  have TQ := T1.grown hgrQ (.inl ⟨rfl, rfl⟩)
  have hz := TQ.size
  have oQ := hownQ.up (loc_up hlocQ (B' := w.heap.size + 2) T1.size)
  rw [List.nil_append] at oQ
  have HT := hid TQ
  have HOQ := hid oQ
  have hl1 : w.heap.size < wQ.heap.size := by omega
  have hl2 : w.heap.size + 1 < wQ.heap.size := by omega
  have HST := hid (show Acc Pair.enc 54 2 wQ (wQ.alloc (.cells #[.slice none 0 0, .slice AQ s.queue.length cQ] 25)) wQ.heap.size 25 [] [.slice AQ s.queue.length cQ] none 0 [] from
    ⟨(Below.refl _ _).alloc (Nat.le_refl _) _, Nat.le_refl _, by rw [heap_alloc_if, if_pos rfl]; rfl, Own.none_⟩)
  clear hownQ hgrQ hlocQ TQ oQ T1 c1
  go_wp2_with fail
  go_loopw [10, 11] (fun vin vi wr => ∃ (k : Nat) (A : Option Addr) (c : Nat), k ≤ s.pairs.length ∧ vi = .int .i64 k ∧ vin = .bool (decide (i < k)) ∧ Acc Pair.enc 54 2 wQ wr wQ.heap.size 25 [] [.slice AQ s.queue.length cQ] A c ((s.pairs.take k).modify i fun p => ⟨p.key, val⟩)) (fun _ vi _ => s.pairs.length - (intOf vi).toNat)
  case atStart => exact ⟨0, none, 0, Nat.zero_le _, rfl, by simp, by simpa using HST.out⟩
  case round =>
    obtain ⟨k, A, c, hkl, rfl, rfl, hacc⟩ := hrel
    obtain ⟨L, hL⟩ : ∃ L, L = (s.pairs.take k).modify i fun p => ⟨p.key, val⟩ := ⟨_, rfl⟩
    rw [← hL] at hacc
    have HL := hid hL
    have HLL := hid (show L.length ≤ 900000 by have := HP.out; rw [hL, List.length_modify, List.length_take]; omega)
    have HA := hid hacc
    clear hL
    have bwr := hacc.below
    have hlt0 := hacc.lt
    have c0 : wr.cell? ⟨w.heap.size, 0, none⟩ = some (.slice PA s.pairs.length pc) := (bwr.cell (p := ⟨w.heap.size, 0, none⟩) hl1).trans HT.out.cells.1
    have d0 : wr.cell? ⟨wQ.heap.size, 0, none⟩ = some (.slice A L.length c) := hacc.cell 0
    have d1 : wr.cell? ⟨wQ.heap.size, 1, none⟩ = some (.slice AQ s.queue.length cQ) := hacc.cell 1
    have hbw : Below w.heap.size w wr := HT.out.base.trans (bwr.mono HT.out.base.size)
    have HB := hid bwr
    have HBW := hid hbw
    clear bwr hbw hacc
    by_cases hlt : k < s.pairs.length
    · obtain ⟨b, off, rfl, hB, k0, k1⟩ := (H.out.pairs.below HBW.out).pair hlt
      have hlk : (k : Int) < (s.pairs.length : Int) := by omega
      have hbn : b < wr.heap.size := by omega
      have hl4 : w.heap.size < wr.heap.size := by omega
      have HSUCC := hid (show (s.pairs.take (k + 1)).modify i (fun p => ⟨p.key, val⟩) = L ++ [if k = i then ⟨s.pairs[k].key, val⟩ else s.pairs[k]] by rw [mod_succ hlt, HL.out])
      by_cases hki : k = i
      · subst hki
        have he : (s.pairs[k].key.toList == key.toList) = true := HHIT.out
        have hin : decide (k < k) = false := by simp
        have HS := hid (show L ++ [⟨s.pairs[k].key, val⟩] = (s.pairs.take (k + 1)).modify k (fun p => ⟨p.key, val⟩) by rw [HSUCC.out, if_pos rfl])
        go_wp2_with (at_builtin; refine app_pair (l := L) (m := [(⟨s.pairs[k].key, val⟩ : Pair)]) (A := A) (c := c) (lo := wQ.heap.size + 1) _ rfl (.tmp 69) (.tmp 71) (by first | rfl | simp [Act.eval]) rfl (HA.out.own.below (by repeat (first | exact Below.refl _ _ | assumption | refine Below.drew ?_ | refine below_drewN ?_ _ | refine Below.alloc ?_ (by first | omega | (simp; done) | (simp; omega)) _ | refine Below.setCell ?_ (by first | omega | (simp; done) | (simp; omega)) _))) 1 rfl (arr_onePair (vb := wr.heap.size + 1) (x := (⟨s.pairs[k].key, val⟩ : Pair)) (by rw [heap_alloc_if, if_pos (by simp)]; rfl)) (by have := HLL.out; simp; omega) (by simp; omega) ?_; intro A' c' w' hown hgr hloc; have hpp := HA.out.mid (by repeat (first | exact Below.refl _ _ | assumption | refine Below.drew ?_ | refine below_drewN ?_ _ | refine Below.alloc ?_ (by first | omega | (simp; done) | (simp; omega)) _ | refine Below.setCell ?_ (by first | omega | (simp; done) | (simp; omega)) _)) hgr; have e31 : w'.cell? ⟨wQ.heap.size, 0, none⟩ = some (.slice A L.length c) := (by rw [cell_of_row w' _ 0 _ _ _ hpp]; rfl); have f31 := frozen_of_row w' _ 0 _ _ hpp; have hs31 := hgr.size)
        refine ⟨⟨k + 1, A', c', by omega, by go_num, by simp, by rw [← HS.out]; exact HA.out.push (by repeat (first | exact Below.refl _ _ | assumption | refine Below.drew ?_ | refine below_drewN ?_ _ | refine Below.alloc ?_ (by first | omega | (simp; done) | (simp; omega)) _ | refine Below.setCell ?_ (by first | omega | (simp; done) | (simp; omega)) _)) hgr hown (by simp) rfl⟩, by simp [intOf]; omega⟩
      · have HS := hid (show L ++ [s.pairs[k]] = (s.pairs.take (k + 1)).modify i (fun p => ⟨p.key, val⟩) by rw [HSUCC.out, if_neg hki])
        by_cases hlo : k < i
        · have he : (s.pairs[k].key.toList == key.toList) = false := HLOW.out k hlt hlo
          have hin : decide (i < k) = false := by simp; omega
          have hin2 : decide (i < k + 1) = false := by simp; omega
          go_wp2_with (at_builtin; refine app_pair (l := L) (m := [s.pairs[k]]) (A := A) (c := c) (lo := wQ.heap.size + 1) _ rfl (.tmp 69) (.tmp 71) (by first | rfl | simp [Act.eval]) rfl (HA.out.own.below (by repeat (first | exact Below.refl _ _ | assumption | refine Below.drew ?_ | refine below_drewN ?_ _ | refine Below.alloc ?_ (by first | omega | (simp; done) | (simp; omega)) _ | refine Below.setCell ?_ (by first | omega | (simp; done) | (simp; omega)) _))) 1 rfl (arr_onePair (vb := wr.heap.size + 1) (x := s.pairs[k]) (by rw [heap_alloc_if, if_pos (by simp)]; rfl)) (by have := HLL.out; simp; omega) (by simp; omega) ?_; intro A' c' w' hown hgr hloc; have hpp := HA.out.mid (by repeat (first | exact Below.refl _ _ | assumption | refine Below.drew ?_ | refine below_drewN ?_ _ | refine Below.alloc ?_ (by first | omega | (simp; done) | (simp; omega)) _ | refine Below.setCell ?_ (by first | omega | (simp; done) | (simp; omega)) _)) hgr; have e31 : w'.cell? ⟨wQ.heap.size, 0, none⟩ = some (.slice A L.length c) := (by rw [cell_of_row w' _ 0 _ _ _ hpp]; rfl); have f31 := frozen_of_row w' _ 0 _ _ hpp; have hs31 := hgr.size)
          refine ⟨⟨k + 1, A', c', by omega, by go_num, by simp; omega, by rw [← HS.out]; exact HA.out.push (by repeat (first | exact Below.refl _ _ | assumption | refine Below.drew ?_ | refine below_drewN ?_ _ | refine Below.alloc ?_ (by first | omega | (simp; done) | (simp; omega)) _ | refine Below.setCell ?_ (by first | omega | (simp; done) | (simp; omega)) _)) hgr hown (by simp) rfl⟩, by simp [intOf]; omega⟩
        · have hin : decide (i < k) = true := by simp; omega
          have hin2 : decide (i < k + 1) = true := by simp; omega
          cases he' : eqK key s.pairs[k] with
          | true =>
            have he : (s.pairs[k].key.toList == key.toList) = true := he'
            clear he'
            go_wp2_with (at_builtin; refine app_pair (l := L) (m := [s.pairs[k]]) (A := A) (c := c) (lo := wQ.heap.size + 1) _ rfl (.tmp 69) (.tmp 71) (by first | rfl | simp [Act.eval]) rfl (HA.out.own.below (by repeat (first | exact Below.refl _ _ | assumption | refine Below.drew ?_ | refine below_drewN ?_ _ | refine Below.alloc ?_ (by first | omega | (simp; done) | (simp; omega)) _ | refine Below.setCell ?_ (by first | omega | (simp; done) | (simp; omega)) _))) 1 rfl (arr_onePair (vb := wr.heap.size + 1) (x := s.pairs[k]) (by rw [heap_alloc_if, if_pos (by simp)]; rfl)) (by have := HLL.out; simp; omega) (by simp; omega) ?_; intro A' c' w' hown hgr hloc; have hpp := HA.out.mid (by repeat (first | exact Below.refl _ _ | assumption | refine Below.drew ?_ | refine below_drewN ?_ _ | refine Below.alloc ?_ (by first | omega | (simp; done) | (simp; omega)) _ | refine Below.setCell ?_ (by first | omega | (simp; done) | (simp; omega)) _)) hgr; have e31 : w'.cell? ⟨wQ.heap.size, 0, none⟩ = some (.slice A L.length c) := (by rw [cell_of_row w' _ 0 _ _ _ hpp]; rfl); have f31 := frozen_of_row w' _ 0 _ _ hpp; have hs31 := hgr.size)
            refine ⟨⟨k + 1, A', c', by omega, by go_num, by simp; omega, by rw [← HS.out]; exact HA.out.push (by repeat (first | exact Below.refl _ _ | assumption | refine Below.drew ?_ | refine below_drewN ?_ _ | refine Below.alloc ?_ (by first | omega | (simp; done) | (simp; omega)) _ | refine Below.setCell ?_ (by first | omega | (simp; done) | (simp; omega)) _)) hgr hown (by simp) rfl⟩, by simp [intOf]; omega⟩
          | false =>
            have he : (s.pairs[k].key.toList == key.toList) = false := he'
            clear he'
            go_wp2_with (at_builtin; refine app_pair (l := L) (m := [s.pairs[k]]) (A := A) (c := c) (lo := wQ.heap.size + 1) _ rfl (.tmp 69) (.tmp 71) (by first | rfl | simp [Act.eval]) rfl (HA.out.own.below (by repeat (first | exact Below.refl _ _ | assumption | refine Below.drew ?_ | refine below_drewN ?_ _ | refine Below.alloc ?_ (by first | omega | (simp; done) | (simp; omega)) _ | refine Below.setCell ?_ (by first | omega | (simp; done) | (simp; omega)) _))) 1 rfl (arr_onePair (vb := wr.heap.size + 1) (x := s.pairs[k]) (by rw [heap_alloc_if, if_pos (by simp)]; rfl)) (by have := HLL.out; simp; omega) (by simp; omega) ?_; intro A' c' w' hown hgr hloc; have hpp := HA.out.mid (by repeat (first | exact Below.refl _ _ | assumption | refine Below.drew ?_ | refine below_drewN ?_ _ | refine Below.alloc ?_ (by first | omega | (simp; done) | (simp; omega)) _ | refine Below.setCell ?_ (by first | omega | (simp; done) | (simp; omega)) _)) hgr; have e31 : w'.cell? ⟨wQ.heap.size, 0, none⟩ = some (.slice A L.length c) := (by rw [cell_of_row w' _ 0 _ _ _ hpp]; rfl); have f31 := frozen_of_row w' _ 0 _ _ hpp; have hs31 := hgr.size)
            refine ⟨⟨k + 1, A', c', by omega, by go_num, by simp; omega, by rw [← HS.out]; exact HA.out.push (by repeat (first | exact Below.refl _ _ | assumption | refine Below.drew ?_ | refine below_drewN ?_ _ | refine Below.alloc ?_ (by first | omega | (simp; done) | (simp; omega)) _ | refine Below.setCell ?_ (by first | omega | (simp; done) | (simp; omega)) _)) hgr hown (by simp) rfl⟩, by simp [intOf]; omega⟩
    · have hkk : s.pairs.take k = s.pairs := List.take_of_length_le (by omega)
      have HK := hid (show L = setP s.pairs key val by rw [HL.out, hkk, HSET.out])
      have hin : decide (i < k) = true := by simp; omega
      clear hkk
      have BO : wr.heap[w.heap.size + 1]? = some (.cells #[.slice none 0 0, .slice none 0 0] 25 (0, 0)) := (HB.out.block _ hl2).trans HT.out.out
      have o0 := cell_of_row wr _ 0 _ _ _ BO
      have o1 := cell_of_row wr _ 1 _ _ _ BO
      have g0 := frozen_of_row wr _ 0 _ _ BO
      have g1 := frozen_of_row wr _ 1 _ _ BO
      have hn1 : ¬ w.heap.size + 1 = wQ.heap.size := by omega
      have hl3 : w.heap.size + 1 < wr.heap.size := by omega
      clear BO
      go_wp2
      have gP := (HA.out.own.setCell (p := ⟨w.heap.size + 1, 0, none⟩) (by show _ < wQ.heap.size + 1; simp; omega) (.slice A L.length c)).setCell (p := ⟨w.heap.size + 1, 1, none⟩) (by show _ < wQ.heap.size + 1; simp; omega) (.slice AQ s.queue.length cQ)
      have oQ : Own txt 9 1 wr (w.heap.size + 2) AQ cQ s.queue := HOQ.out.below HB.out
      have gQ := (oQ.setCell (p := ⟨w.heap.size + 1, 0, none⟩) (by simp) (.slice A L.length c)).setCell (p := ⟨w.heap.size + 1, 1, none⟩) (by simp) (.slice AQ s.queue.length cQ)
      have hB := HBW.out
      rw [← HK.out]
      refine bodyPost_ret (v := .agg #[.slice A L.length c, .slice AQ s.queue.length cQ]) (by simp [results, Tryz.results41, go_sem, o0, o1]) rfl ⟨A, c, AQ, cQ, by simp, ⟨gP.arr Pair.enc_len, gP.len, gP.max, gQ.arr txt_len, gQ.len, gQ.max⟩, ⟨gP.low (by omega), gQ.low (by omega)⟩, (by repeat (first | exact Below.refl _ _ | assumption | refine Below.drew ?_ | refine below_drewN ?_ _ | refine Below.alloc ?_ (by first | omega | (simp; done) | (simp; omega)) _ | refine Below.setCell ?_ (by first | omega | (simp; done) | (simp; omega)) _))⟩
end Go.Proofs.YtamcehfcjcmpmaaGreatDoor
