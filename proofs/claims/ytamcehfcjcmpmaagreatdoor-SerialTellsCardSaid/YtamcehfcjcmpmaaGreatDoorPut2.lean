/- The reference's Put of a key that has no value. -/
import Derived.Test.YtamcehfcjcmpmaaGreatDoorAcc
import Derived.Test.YtamcehfcjcmpmaaGreatDoorRef1
import Derived.Test.YtamcehfcjcmpmaaGreatDoorPut1
namespace Go.Proofs.YtamcehfcjcmpmaaGreatDoor
open Go.RowKit

theorem ins_succ {l : List Pair} {k g : Nat} {x : Pair} (hk : k < l.length) (hg : g ≤ k) : ins (l.take (k + 1)) g x = ins (l.take k) g x ++ [l[k]] := by
  unfold ins
  rw [List.take_succ_eq_append_getElem hk, List.take_append_of_le_length (by simp; omega), List.drop_append_of_le_length (by simp; omega)]
  simp
theorem ins_at {l : List Pair} {g : Nat} {x : Pair} (hg : g < l.length) : ins (l.take (g + 1)) g x = l.take g ++ [x] ++ [l[g]] := by
  rw [ins_succ hg (Nat.le_refl _)]
  unfold ins
  rw [List.take_of_length_le (by simp; omega), List.drop_of_length_le (by simp; omega)]
theorem ins_end {l : List Pair} {x : Pair} : ins l l.length x = l ++ [x] := by simp [ins]
theorem set_new {l : List Pair} {key val : ByteArray} (h : ¬ l.findIdx (eqK key) < l.length) : setP l key val = ins l (l.findIdx (gtK key)) ⟨key, val⟩ := by rw [setP, if_neg h]
theorem Acc.old {α : Type} {enc : α → List Value} {e k : Nat} {W1 wr : World} {m : Nat} {ty : TypeId} {pre post : List Value} {A : Option Addr} {c : Nat} {L : List α} (h : Acc enc e k W1 wr m ty pre post A c L) : ∀ j, rowOf A c = some j → j < wr.heap.size := by
  intro j hj
  unfold rowOf at hj
  split at hj
  · cases hj
  · rcases h.own.lt with h0 | ⟨b, off, hA, hlo, hlt⟩
    · omega
    · subst hA
      simp at hj
      omega
set_option maxHeartbeats 4000000 in
set_option maxRecDepth 100000 in
theorem refput_new (s : Shelf) (PA : Option Addr) (pc : Nat) (QA : Option Addr) (qc : Nat) (key val : ByteArray) (w : World) (h : ShIn w w.heap.size PA pc QA qc s) (hp : s.pairs.length ≤ 900000) (hq : s.queue.length ≤ 900000)
    (hh : ¬ s.pairs.findIdx (eqK key) < s.pairs.length) :
    Calls Tryz.prog 41 #[.agg #[.slice PA s.pairs.length pc, .slice QA s.queue.length qc], .string key, .string val] w (GivesIn ⟨setP s.pairs key val, s.queue⟩ w) := by
  have H := hid h
  have HP := hid hp
  have HQ := hid hq
  have hpl := h.plen
  have hpm := h.pmax
  obtain ⟨g, hg⟩ : ∃ g, g = s.pairs.findIdx (gtK key) := ⟨_, rfl⟩
  have hgle : g ≤ s.pairs.length := by rw [hg]; exact List.findIdx_le_length
  have HSET := hid (show setP s.pairs key val = ins s.pairs g ⟨key, val⟩ by rw [hg]; exact set_new hh)
  have HNO := hid (findIdx_none hh)
  have HHIT := hid (fun (hlt : g < s.pairs.length) => show Op.bytesLess s.pairs[g].key.toList key.toList = false by
    have : gtK key s.pairs[g] = true := by subst hg; exact List.findIdx_getElem
    unfold gtK at this
    simp only [Bool.and_eq_true, Bool.not_eq_true'] at this
    exact this.1)
  have HLOW := hid (show ∀ j, (hj : j < s.pairs.length) → j < g → Op.bytesLess s.pairs[j].key.toList key.toList = true from fun j hj hlt => by
    have h1 : gtK key s.pairs[j] = false := by simpa using List.not_of_lt_findIdx (p := gtK key) (xs := s.pairs) (i := j) (by omega)
    have h2 : (s.pairs[j].key.toList == key.toList) = false := findIdx_none hh _ (List.getElem_mem hj)
    unfold gtK at h1
    rw [h2] at h1
    simpa using h1)
  have HHAD := hid (show (getD' s.pairs key).2 = false by rw [getD'_hasK, hasK, decide_eq_false_iff_not]; exact hh)
  clear h hp hq hh hg
  obtain ⟨i0, hi0, hz0, hz1, hz2⟩ := info_parts info_pair
  have HI := hid hi0
  have HZ0 := hid hz0
  have HZ1 := hid hz1
  have HZ2 := hid hz2
  clear hi0 hz0 hz1 hz2
  have T0 := Two.start w (.slice PA s.pairs.length pc) (.slice QA s.queue.length qc) 25
  go_enter Tryz.func41, Tryz.ntmps41
  go_wp2_with fail
  refine (refget_any s PA pc QA s.queue.length qc key _ ((H.out.pairs.below T0.base).more T0.base.size) hpl hpm).mono ?_
  rintro e w1 ⟨rfl, hb1⟩
  rw [HHAD.out]
  have T1 : Two w w1 (.slice PA s.pairs.length pc) (.slice QA s.queue.length qc) 25 := ⟨T0.base.trans (hb1.mono T0.base.size), Nat.le_trans T0.size hb1.size, (hb1.block _ (by have := T0.size; omega)).trans T0.box, (hb1.block _ (by have := T0.size; omega)).trans T0.out⟩
  clear hb1 T0
  have c1 := T1.cells.2
  go_wp2_with (at_builtin; refine app_txt (l := []) (m := s.queue) _ rfl (.const (.slice none 0 0)) (.tmp 20) rfl rfl (Own.none_ (lo := w.heap.size)) qc rfl (H.out.queue.below T1.base) (by have := HQ.out; simp; omega) T1.base.size ?_; intro AQ cQ wQ hownQ hgrQ hlocQ)
  have TQ := T1.grown hgrQ (.inl ⟨rfl, rfl⟩)
  have hz := TQ.size
  have oQ := hownQ.up (loc_up hlocQ (B' := w.heap.size + 2) T1.size)
  rw [List.nil_append] at oQ
  have HT := hid TQ
  have HOQ := hid oQ
  have hl1 : w.heap.size < wQ.heap.size := by omega
  have hl2 : w.heap.size + 1 < wQ.heap.size := by omega
  have HST := hid (show Acc Pair.enc 54 2 wQ (wQ.alloc (.cells #[.slice none 0 0, .slice AQ s.queue.length cQ] 25)) wQ.heap.size 25 [] [.slice AQ s.queue.length cQ] none 0 [] from
    ⟨(Below.refl _ _).alloc (Nat.le_refl _) _, Nat.le_refl _, by rw [heap_alloc_if, if_pos rfl]; rfl, Own.none_⟩)
  clear hownQ hgrQ hlocQ TQ oQ T1 c1
  go_wp2_with fail
  go_loopw [10, 11] (fun vin vi wr => ∃ (k : Nat) (A : Option Addr) (c : Nat), k ≤ s.pairs.length ∧ vi = .int .i64 k ∧ vin = .bool (decide (g < k)) ∧ Acc Pair.enc 54 2 wQ wr wQ.heap.size 25 [] [.slice AQ s.queue.length cQ] A c (if g < k then ins (s.pairs.take k) g ⟨key, val⟩ else s.pairs.take k)) (fun _ vi _ => s.pairs.length - (intOf vi).toNat)
  case atStart => exact ⟨0, none, 0, Nat.zero_le _, rfl, by simp, by rw [if_neg (by omega)]; simpa using HST.out⟩
  case round =>
    obtain ⟨k, A, c, hkl, rfl, rfl, hacc⟩ := hrel
    obtain ⟨L, hL⟩ : ∃ L, L = (if g < k then ins (s.pairs.take k) g ⟨key, val⟩ else s.pairs.take k) := ⟨_, rfl⟩
    rw [← hL] at hacc
    have HL := hid hL
    have HLL := hid (show L.length ≤ 900001 by have := HP.out; rw [hL]; split; (rw [ins_length _ _ _ (by rw [List.length_take]; omega), List.length_take]; omega); (rw [List.length_take]; omega))
    have HA := hid hacc
    clear hL
    have bwr := hacc.below
    have hlt0 := hacc.lt
    have c0 : wr.cell? ⟨w.heap.size, 0, none⟩ = some (.slice PA s.pairs.length pc) := (bwr.cell (p := ⟨w.heap.size, 0, none⟩) hl1).trans HT.out.cells.1
    have d0 : wr.cell? ⟨wQ.heap.size, 0, none⟩ = some (.slice A L.length c) := hacc.cell 0
    have d1 : wr.cell? ⟨wQ.heap.size, 1, none⟩ = some (.slice AQ s.queue.length cQ) := hacc.cell 1
    have hbw : Below w.heap.size w wr := HT.out.base.trans (bwr.mono HT.out.base.size)
    have HB := hid bwr
    have HBW := hid hbw
    clear bwr hbw hacc
    by_cases hlt : k < s.pairs.length
    · obtain ⟨b, off, rfl, hB, k0, k1⟩ := (H.out.pairs.below HBW.out).pair hlt
      have hlk : (k : Int) < (s.pairs.length : Int) := by omega
      have hbn : b < wr.heap.size := by omega
      have hl4 : w.heap.size < wr.heap.size := by omega
      have heq : (s.pairs[k].key.toList == key.toList) = false := HNO.out _ (List.getElem_mem hlt)
      by_cases hki : k = g
      · subst hki
        have hb := HHIT.out hlt
        have hin : decide (k < k) = false := by simp
        have HS := hid (show L ++ [⟨key, val⟩] ++ [s.pairs[k]] = ins (s.pairs.take (k + 1)) k ⟨key, val⟩ by rw [ins_at hlt, HL.out, if_neg (by omega)])
        go_wp2_with (first | (at_builtin; refine app_pair (l := L) (m := [(⟨key, val⟩ : Pair)]) (A := A) (c := c) (lo := wQ.heap.size + 1) _ rfl (.tmp 61) (.tmp 65) (by first | rfl | simp) rfl (HA.out.own.below (by repeat (first | exact Below.refl _ _ | assumption | refine Below.drew ?_ | refine below_drewN ?_ _ | refine Below.alloc ?_ (by first | omega | (simp; done) | (simp; omega)) _ | refine Below.setCell ?_ (by first | omega | (simp; done) | (simp; omega)) _))) 1 rfl (arr_onePair (vb := wr.heap.size + 1) (x := (⟨key, val⟩ : Pair)) (by rw [heap_alloc_if, if_pos (by simp)]; rfl)) (by have := HLL.out; simp; omega) (by simp; omega) ?_; intro A' c' w' hown hgr hloc; have hpp := HA.out.mid (by repeat (first | exact Below.refl _ _ | assumption | refine Below.drew ?_ | refine below_drewN ?_ _ | refine Below.alloc ?_ (by first | omega | (simp; done) | (simp; omega)) _ | refine Below.setCell ?_ (by first | omega | (simp; done) | (simp; omega)) _)) hgr; have e31 : w'.cell? ⟨wQ.heap.size, 0, none⟩ = some (.slice A L.length c) := (by rw [cell_of_row w' _ 0 _ _ _ hpp]; rfl); have f31 := frozen_of_row w' _ 0 _ _ hpp; have hs31 := hgr.size; simp only [World.size_alloc] at hs31; have q31 : w'.heap[wr.heap.size]? = some (.cells #[.string s.pairs[k].key, .string s.pairs[k].val] 54 (0, 0)) := (hgr.block _ (by simp; omega) (fun hr => by have := HA.out.old _ hr.symm; omega)).trans ((Below.heap_alloc _ _ _ (by simp)).trans (by rw [heap_alloc_if, if_pos rfl])); have q0 := cell_of_row w' _ 0 _ _ _ q31; have q1 := cell_of_row w' _ 1 _ _ _ q31; have hlp : wr.heap.size < w'.heap.size := (by omega); have hnp : ¬ wr.heap.size = wQ.heap.size := (by omega); have hnp2 : ¬ wQ.heap.size = wr.heap.size := (by omega); have hlm : wQ.heap.size < w'.heap.size := (by omega); have HA2 := hid (HA.out.push (by repeat (first | exact Below.refl _ _ | assumption | refine Below.drew ?_ | refine below_drewN ?_ _ | refine Below.alloc ?_ (by first | omega | (simp; done) | (simp; omega)) _ | refine Below.setCell ?_ (by first | omega | (simp; done) | (simp; omega)) _)) hgr hown (n := L.length + 1) (by simp) (j := 0) rfl)) | (at_builtin; refine app_pair (l := L ++ [(⟨key, val⟩ : Pair)]) (m := [s.pairs[k]]) (A := A') (c := c') (lo := wQ.heap.size + 1) _ rfl (.tmp 69) (.tmp 71) rfl (by first | rfl | simp [Act.eval]) (HA2.out.own.below (by repeat (first | exact Below.refl _ _ | assumption | refine Below.drew ?_ | refine below_drewN ?_ _ | refine Below.alloc ?_ (by first | omega | (simp; done) | (simp; omega)) _ | refine Below.setCell ?_ (by first | omega | (simp; done) | (simp; omega)) _))) 1 rfl (arr_onePair (vb := w'.heap.size) (x := s.pairs[k]) (by rw [heap_alloc_if, if_pos (by simp)]; rfl)) (by have := HLL.out; simp; omega) (by simp; omega) ?_; intro A2 c2 w2 hown2 hgr2 hloc2; have hpp2 := HA2.out.mid (by repeat (first | exact Below.refl _ _ | assumption | refine Below.drew ?_ | refine below_drewN ?_ _ | refine Below.alloc ?_ (by first | omega | (simp; done) | (simp; omega)) _ | refine Below.setCell ?_ (by first | omega | (simp; done) | (simp; omega)) _)) hgr2; have e32 : w2.cell? ⟨wQ.heap.size, 0, none⟩ = some (.slice A' (L ++ [(⟨key, val⟩ : Pair)]).length c') := (by rw [cell_of_row w2 _ 0 _ _ _ hpp2]; rfl); have f32 := frozen_of_row w2 _ 0 _ _ hpp2))
        refine ⟨⟨k + 1, A2, c2, by omega, by go_num, by simp, by rw [if_pos (by omega), ← HS.out]; exact HA2.out.push (by repeat (first | exact Below.refl _ _ | assumption | refine Below.drew ?_ | refine below_drewN ?_ _ | refine Below.alloc ?_ (by first | omega | (simp; done) | (simp; omega)) _ | refine Below.setCell ?_ (by first | omega | (simp; done) | (simp; omega)) _)) hgr2 hown2 (by simp) rfl⟩, by simp [intOf]; omega⟩
      · by_cases hlo : k < g
        · have hb := HLOW.out k hlt hlo
          have hin : decide (g < k) = false := by simp; omega
          have HS := hid (show L ++ [s.pairs[k]] = s.pairs.take (k + 1) by rw [List.take_succ_eq_append_getElem hlt, HL.out, if_neg (by omega)])
          go_wp2_with (at_builtin; refine app_pair (l := L) (m := [s.pairs[k]]) (A := A) (c := c) (lo := wQ.heap.size + 1) _ rfl (.tmp 69) (.tmp 71) (by first | rfl | simp [Act.eval]) rfl (HA.out.own.below (by repeat (first | exact Below.refl _ _ | assumption | refine Below.drew ?_ | refine below_drewN ?_ _ | refine Below.alloc ?_ (by first | omega | (simp; done) | (simp; omega)) _ | refine Below.setCell ?_ (by first | omega | (simp; done) | (simp; omega)) _))) 1 rfl (arr_onePair (vb := wr.heap.size + 1) (x := s.pairs[k]) (by rw [heap_alloc_if, if_pos (by simp)]; rfl)) (by have := HLL.out; simp; omega) (by simp; omega) ?_; intro A' c' w' hown hgr hloc; have hpp := HA.out.mid (by repeat (first | exact Below.refl _ _ | assumption | refine Below.drew ?_ | refine below_drewN ?_ _ | refine Below.alloc ?_ (by first | omega | (simp; done) | (simp; omega)) _ | refine Below.setCell ?_ (by first | omega | (simp; done) | (simp; omega)) _)) hgr; have e31 : w'.cell? ⟨wQ.heap.size, 0, none⟩ = some (.slice A L.length c) := (by rw [cell_of_row w' _ 0 _ _ _ hpp]; rfl); have f31 := frozen_of_row w' _ 0 _ _ hpp; have hs31 := hgr.size)
          refine ⟨⟨k + 1, A', c', by omega, by go_num, by simp; omega, by rw [if_neg (by omega), ← HS.out]; exact HA.out.push (by repeat (first | exact Below.refl _ _ | assumption | refine Below.drew ?_ | refine below_drewN ?_ _ | refine Below.alloc ?_ (by first | omega | (simp; done) | (simp; omega)) _ | refine Below.setCell ?_ (by first | omega | (simp; done) | (simp; omega)) _)) hgr hown (by simp) rfl⟩, by simp [intOf]; omega⟩
        · have hin : decide (g < k) = true := by simp; omega
          have HS := hid (show L ++ [s.pairs[k]] = ins (s.pairs.take (k + 1)) g ⟨key, val⟩ by rw [ins_succ hlt (by omega), HL.out, if_pos (by omega)])
          go_wp2_with (at_builtin; refine app_pair (l := L) (m := [s.pairs[k]]) (A := A) (c := c) (lo := wQ.heap.size + 1) _ rfl (.tmp 69) (.tmp 71) (by first | rfl | simp [Act.eval]) rfl (HA.out.own.below (by repeat (first | exact Below.refl _ _ | assumption | refine Below.drew ?_ | refine below_drewN ?_ _ | refine Below.alloc ?_ (by first | omega | (simp; done) | (simp; omega)) _ | refine Below.setCell ?_ (by first | omega | (simp; done) | (simp; omega)) _))) 1 rfl (arr_onePair (vb := wr.heap.size + 1) (x := s.pairs[k]) (by rw [heap_alloc_if, if_pos (by simp)]; rfl)) (by have := HLL.out; simp; omega) (by simp; omega) ?_; intro A' c' w' hown hgr hloc; have hpp := HA.out.mid (by repeat (first | exact Below.refl _ _ | assumption | refine Below.drew ?_ | refine below_drewN ?_ _ | refine Below.alloc ?_ (by first | omega | (simp; done) | (simp; omega)) _ | refine Below.setCell ?_ (by first | omega | (simp; done) | (simp; omega)) _)) hgr; have e31 : w'.cell? ⟨wQ.heap.size, 0, none⟩ = some (.slice A L.length c) := (by rw [cell_of_row w' _ 0 _ _ _ hpp]; rfl); have f31 := frozen_of_row w' _ 0 _ _ hpp; have hs31 := hgr.size)
          refine ⟨⟨k + 1, A', c', by omega, by go_num, by simp; omega, by rw [if_pos (by omega), ← HS.out]; exact HA.out.push (by repeat (first | exact Below.refl _ _ | assumption | refine Below.drew ?_ | refine below_drewN ?_ _ | refine Below.alloc ?_ (by first | omega | (simp; done) | (simp; omega)) _ | refine Below.setCell ?_ (by first | omega | (simp; done) | (simp; omega)) _)) hgr hown (by simp) rfl⟩, by simp [intOf]; omega⟩
    · have hkk : s.pairs.take k = s.pairs := List.take_of_length_le (by omega)
      by_cases hgn : g < s.pairs.length
      case pos =>
        have HK := hid (show L = setP s.pairs key val by rw [HL.out, hkk, HSET.out, if_pos (by omega)])
        have hin : decide (g < k) = true := by simp; omega
        clear hkk
        have BO : wr.heap[w.heap.size + 1]? = some (.cells #[.slice none 0 0, .slice none 0 0] 25 (0, 0)) := (HB.out.block _ hl2).trans HT.out.out
        have o0 := cell_of_row wr _ 0 _ _ _ BO
        have o1 := cell_of_row wr _ 1 _ _ _ BO
        have g0 := frozen_of_row wr _ 0 _ _ BO
        have g1 := frozen_of_row wr _ 1 _ _ BO
        have hn1 : ¬ w.heap.size + 1 = wQ.heap.size := by omega
        have hl3 : w.heap.size + 1 < wr.heap.size := by omega
        clear BO
        go_wp2
        have gP := (HA.out.own.setCell (p := ⟨w.heap.size + 1, 0, none⟩) (by show _ < wQ.heap.size + 1; simp; omega) (.slice A L.length c)).setCell (p := ⟨w.heap.size + 1, 1, none⟩) (by show _ < wQ.heap.size + 1; simp; omega) (.slice AQ s.queue.length cQ)
        have oQ : Own txt 9 1 wr (w.heap.size + 2) AQ cQ s.queue := HOQ.out.below HB.out
        have gQ := (oQ.setCell (p := ⟨w.heap.size + 1, 0, none⟩) (by simp) (.slice A L.length c)).setCell (p := ⟨w.heap.size + 1, 1, none⟩) (by simp) (.slice AQ s.queue.length cQ)
        have hB := HBW.out
        rw [← HK.out]
        refine bodyPost_ret (v := .agg #[.slice A L.length c, .slice AQ s.queue.length cQ]) (by simp [results, Tryz.results41, go_sem, o0, o1]) rfl ⟨A, c, AQ, cQ, by simp, ⟨gP.arr Pair.enc_len, gP.len, gP.max, gQ.arr txt_len, gQ.len, gQ.max⟩, ⟨gP.low (by omega), gQ.low (by omega)⟩, (by repeat (first | exact Below.refl _ _ | assumption | refine Below.drew ?_ | refine below_drewN ?_ _ | refine Below.alloc ?_ (by first | omega | (simp; done) | (simp; omega)) _ | refine Below.setCell ?_ (by first | omega | (simp; done) | (simp; omega)) _))⟩
      case neg =>
        have HK := hid (show L ++ [⟨key, val⟩] = setP s.pairs key val by rw [HL.out, hkk, HSET.out, if_neg (by omega), show g = s.pairs.length by omega, ins_end])
        have hin : decide (g < k) = false := by simp; omega
        clear hkk
        go_wp2_with (at_builtin; refine app_pair (l := L) (m := [(⟨key, val⟩ : Pair)]) (A := A) (c := c) (lo := wQ.heap.size + 1) _ rfl (.tmp 77) (.tmp 81) (by first | rfl | simp [Act.eval]) rfl (HA.out.own.below (by repeat (first | exact Below.refl _ _ | assumption | refine Below.drew ?_ | refine below_drewN ?_ _ | refine Below.alloc ?_ (by first | omega | (simp; done) | (simp; omega)) _ | refine Below.setCell ?_ (by first | omega | (simp; done) | (simp; omega)) _))) 1 rfl (arr_onePair (vb := wr.heap.size) (x := (⟨key, val⟩ : Pair)) (by rw [heap_alloc_if, if_pos (by simp)]; rfl)) (by have := HLL.out; simp; omega) (by simp; omega) ?_; intro A' c' w' hown hgr hloc; have hpp := HA.out.mid (by repeat (first | exact Below.refl _ _ | assumption | refine Below.drew ?_ | refine below_drewN ?_ _ | refine Below.alloc ?_ (by first | omega | (simp; done) | (simp; omega)) _ | refine Below.setCell ?_ (by first | omega | (simp; done) | (simp; omega)) _)) hgr; have e31 : w'.cell? ⟨wQ.heap.size, 0, none⟩ = some (.slice A L.length c) := (by rw [cell_of_row w' _ 0 _ _ _ hpp]; rfl); have e32 : w'.cell? ⟨wQ.heap.size, 1, none⟩ = some (.slice AQ s.queue.length cQ) := (by rw [cell_of_row w' _ 1 _ _ _ hpp]; rfl); have f31 := frozen_of_row w' _ 0 _ _ hpp; have hs31 := hgr.size; simp only [World.size_alloc] at hs31; have BO : w'.heap[w.heap.size + 1]? = some (.cells #[.slice none 0 0, .slice none 0 0] 25 (0, 0)) := (hgr.block _ (by simp; omega) (fun hr => by have := HA.out.rows _ hr.symm; omega)).trans ((Below.heap_alloc _ _ _ (by omega)).trans ((HB.out.block _ hl2).trans HT.out.out)); have o0 := cell_of_row w' _ 0 _ _ _ BO; have o1 := cell_of_row w' _ 1 _ _ _ BO; have g0 := frozen_of_row w' _ 0 _ _ BO; have g1 := frozen_of_row w' _ 1 _ _ BO; have hn1 : ¬ w.heap.size + 1 = wQ.heap.size := (by omega); have hn2 : ¬ wQ.heap.size = w.heap.size + 1 := (by omega); have hl3 : w.heap.size + 1 < w'.heap.size := (by omega); have HA2 := hid (HA.out.push (by repeat (first | exact Below.refl _ _ | assumption | refine Below.drew ?_ | refine below_drewN ?_ _ | refine Below.alloc ?_ (by first | omega | (simp; done) | (simp; omega)) _ | refine Below.setCell ?_ (by first | omega | (simp; done) | (simp; omega)) _)) hgr hown (n := L.length + 1) (by simp) (j := 0) rfl))
        have gP := (HA2.out.own.setCell (p := ⟨w.heap.size + 1, 0, none⟩) (by show _ < wQ.heap.size + 1; simp; omega) (.slice A' (L.length + 1) c')).setCell (p := ⟨w.heap.size + 1, 1, none⟩) (by show _ < wQ.heap.size + 1; simp; omega) (.slice AQ s.queue.length cQ)
        have oQ : Own txt 9 1 _ (w.heap.size + 2) AQ cQ s.queue := HOQ.out.below HA2.out.below
        have gQ := (oQ.setCell (p := ⟨w.heap.size + 1, 0, none⟩) (by simp) (.slice A' (L.length + 1) c')).setCell (p := ⟨w.heap.size + 1, 1, none⟩) (by simp) (.slice AQ s.queue.length cQ)
        have hB := HT.out.base.trans (HA2.out.below.mono HT.out.base.size)
        rw [← HK.out]
        refine bodyPost_ret (v := .agg #[.slice A' (L.length + 1) c', .slice AQ s.queue.length cQ]) (by simp [results, Tryz.results41, go_sem, o0, o1]) rfl ⟨A', c', AQ, cQ, by simp, ⟨gP.arr Pair.enc_len, gP.len, gP.max, gQ.arr txt_len, gQ.len, gQ.max⟩, ⟨gP.low (by omega), gQ.low (by omega)⟩, (by repeat (first | exact Below.refl _ _ | assumption | refine Below.drew ?_ | refine below_drewN ?_ _ | refine Below.alloc ?_ (by first | omega | (simp; done) | (simp; omega)) _ | refine Below.setCell ?_ (by first | omega | (simp; done) | (simp; omega)) _))⟩
theorem refput_any (s : Shelf) (PA : Option Addr) (pc : Nat) (QA : Option Addr) (qc : Nat) (key val : ByteArray) (w : World) (h : ShIn w w.heap.size PA pc QA qc s) (hp : s.pairs.length ≤ 900000) (hq : s.queue.length ≤ 900000) :
    Calls Tryz.prog 41 #[.agg #[.slice PA s.pairs.length pc, .slice QA s.queue.length qc], .string key, .string val] w (GivesIn ⟨setP s.pairs key val, s.queue⟩ w) := by
  by_cases hh : s.pairs.findIdx (eqK key) < s.pairs.length
  · exact refput_had s PA pc QA qc key val w h hp hq hh
  · exact refput_new s PA pc QA qc key val w h hp hq hh
end Go.Proofs.YtamcehfcjcmpmaaGreatDoor
