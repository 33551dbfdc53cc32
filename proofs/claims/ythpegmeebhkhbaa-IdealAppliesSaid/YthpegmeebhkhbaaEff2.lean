/- The reference's Do once more: what it gives is new, or what was handed in. -/
import Derived.Test.YthpegmeebhkhbaaEff
namespace Go.Proofs.Ythpegmeebhkhbaa
open Go.RowKit

def GivesNew (PA0 QA0 : Option Addr) (s0 s : Shelf) (w : World) (e : Ending) (w' : World) : Prop :=
  ∃ PA pc QA qc, e = .returned (.agg #[.slice PA s.pairs.length pc, .slice QA s.queue.length qc]) ∧ ShIn w' w'.heap.size PA pc QA qc s ∧
    ((LowL w.heap.size PA s.pairs ∧ LowL w.heap.size QA s.queue) ∨ (PA = PA0 ∧ QA = QA0 ∧ s = s0)) ∧ Below w.heap.size w w'
set_option maxHeartbeats 4000000 in
set_option maxRecDepth 100000 in
theorem refdo_new (s : Shelf) (PA : Option Addr) (pc : Nat) (QA : Option Addr) (qc : Nat) (f : Eff) (w : World) (h : ShIn w w.heap.size PA pc QA qc s) (hp : s.pairs.length ≤ 900000) (hq : s.queue.length ≤ 900000) :
    Calls Try.prog 51 #[.agg #[.slice PA s.pairs.length pc, .slice QA s.queue.length qc], .agg #[.int .i64 f.kind, .string f.key, .string f.val, .int .u64 f.id, .int .u64 f.ver, .int .u64 f.epoch, .int .i64 f.group]] w (GivesNew PA QA s (doE f s) w) := by
  have H := hid h
  have HP := hid hp
  have HQ := hid hq
  obtain ⟨kind, key, val, id, ver, epoch, group⟩ := f
  clear h hp hq
  by_cases h1 : kind = 1
  · subst h1
    have hd : doE ⟨1, key, val, id, ver, epoch, group⟩ s = ⟨setP s.pairs key val, s.queue⟩ := rfl
    rw [hd]
    clear hd
    go_enter Try.func51, Try.ntmps51
    go_wp2_with fail
    refine (refput_any s PA pc QA qc key val _ (in_below H.out (by repeat (first | exact Below.refl _ _ | assumption | refine Below.drew ?_ | refine below_drewN ?_ _ | refine Below.alloc ?_ (by first | omega | (simp; done) | (simp; omega)) _ | refine Below.setCell ?_ (by first | omega | (simp; done) | (simp; omega)) _))) HP.out HQ.out).mono ?_
    rintro e w1 ⟨PX, px, QX, qx, rfl, hin, hlow, hb⟩
    have hz := hb.size
    simp only [World.size_alloc] at hz
    have R2 : w1.heap[w.heap.size + 1 + 1]? = some (.cells #[.slice none 0 0, .slice none 0 0] 41 (0, 0)) := (hb.block _ (by simp)).trans (by rw [heap_alloc_if, if_pos (by simp)])
    have o0 := cell_of_row w1 _ 0 _ _ _ R2
    have o1 := cell_of_row w1 _ 1 _ _ _ R2
    have g0 := frozen_of_row w1 _ 0 _ _ R2
    have g1 := frozen_of_row w1 _ 1 _ _ R2
    have hl3 : w.heap.size + 1 + 1 < w1.heap.size := by omega
    have hbw : Below w.heap.size w w1 := Below.trans (by repeat (first | exact Below.refl _ _ | assumption | refine Below.drew ?_ | refine below_drewN ?_ _ | refine Below.alloc ?_ (by first | omega | (simp; done) | (simp; omega)) _ | refine Below.setCell ?_ (by first | omega | (simp; done) | (simp; omega)) _)) (hb.mono (show w.heap.size ≤ _ from (by first | omega | (simp; done) | (simp; omega))))
    have HIN := hid hin
    have HLOW := hid hlow
    clear hin hlow hb R2
    go_wp2
    refine bodyPost_ret (v := .agg #[.slice PX (setP s.pairs key val).length px, .slice QX s.queue.length qx]) (by simp [results, Try.results51, go_sem, o0, o1]) rfl ⟨PX, px, QX, qx, rfl, ?_, .inl ⟨HLOW.out.1.mono (by simp; omega), HLOW.out.2.mono (by simp; omega)⟩, (by repeat (first | exact Below.refl _ _ | assumption | refine Below.drew ?_ | refine below_drewN ?_ _ | refine Below.alloc ?_ (by first | omega | (simp; done) | (simp; omega)) _ | refine Below.setCell ?_ (by first | omega | (simp; done) | (simp; omega)) _))⟩
    simpa using (HIN.out.lowCell (p := ⟨w.heap.size + 1 + 1, 0, none⟩) HLOW.out (by simp) (.slice PX _ px)).lowCell (p := ⟨w.heap.size + 1 + 1, 1, none⟩) HLOW.out (by simp) (.slice QX _ qx)
  by_cases h2 : kind = 2
  · subst h2
    have hd : doE ⟨2, key, val, id, ver, epoch, group⟩ s = ⟨dropK key s.pairs, s.queue⟩ := rfl
    rw [hd]
    clear hd
    go_enter Try.func51, Try.ntmps51
    go_wp2_with fail
    refine (refdel_any s PA pc QA qc key _ (in_below H.out (by repeat (first | exact Below.refl _ _ | assumption | refine Below.drew ?_ | refine below_drewN ?_ _ | refine Below.alloc ?_ (by first | omega | (simp; done) | (simp; omega)) _ | refine Below.setCell ?_ (by first | omega | (simp; done) | (simp; omega)) _))) HP.out HQ.out).mono ?_
    rintro e w1 ⟨PX, px, QX, qx, rfl, hin, hlow, hb⟩
    have hz := hb.size
    simp only [World.size_alloc] at hz
    have R2 : w1.heap[w.heap.size + 1 + 1]? = some (.cells #[.slice none 0 0, .slice none 0 0] 41 (0, 0)) := (hb.block _ (by simp)).trans (by rw [heap_alloc_if, if_pos (by simp)])
    have o0 := cell_of_row w1 _ 0 _ _ _ R2
    have o1 := cell_of_row w1 _ 1 _ _ _ R2
    have g0 := frozen_of_row w1 _ 0 _ _ R2
    have g1 := frozen_of_row w1 _ 1 _ _ R2
    have hl3 : w.heap.size + 1 + 1 < w1.heap.size := by omega
    have hbw : Below w.heap.size w w1 := Below.trans (by repeat (first | exact Below.refl _ _ | assumption | refine Below.drew ?_ | refine below_drewN ?_ _ | refine Below.alloc ?_ (by first | omega | (simp; done) | (simp; omega)) _ | refine Below.setCell ?_ (by first | omega | (simp; done) | (simp; omega)) _)) (hb.mono (show w.heap.size ≤ _ from (by first | omega | (simp; done) | (simp; omega))))
    have HIN := hid hin
    have HLOW := hid hlow
    clear hin hlow hb R2
    go_wp2
    refine bodyPost_ret (v := .agg #[.slice PX (dropK key s.pairs).length px, .slice QX s.queue.length qx]) (by simp [results, Try.results51, go_sem, o0, o1]) rfl ⟨PX, px, QX, qx, rfl, ?_, .inl ⟨HLOW.out.1.mono (by simp; omega), HLOW.out.2.mono (by simp; omega)⟩, (by repeat (first | exact Below.refl _ _ | assumption | refine Below.drew ?_ | refine below_drewN ?_ _ | refine Below.alloc ?_ (by first | omega | (simp; done) | (simp; omega)) _ | refine Below.setCell ?_ (by first | omega | (simp; done) | (simp; omega)) _))⟩
    simpa using (HIN.out.lowCell (p := ⟨w.heap.size + 1 + 1, 0, none⟩) HLOW.out (by simp) (.slice PX _ px)).lowCell (p := ⟨w.heap.size + 1 + 1, 1, none⟩) HLOW.out (by simp) (.slice QX _ qx)
  by_cases h3 : kind = 3
  · subst h3
    have hd : doE ⟨3, key, val, id, ver, epoch, group⟩ s = ⟨s.pairs, s.queue ++ [val]⟩ := rfl
    rw [hd]
    clear hd
    go_enter Try.func51, Try.ntmps51
    go_wp2_with fail
    refine (refpush_any s PA pc QA qc val _ (in_below H.out (by repeat (first | exact Below.refl _ _ | assumption | refine Below.drew ?_ | refine below_drewN ?_ _ | refine Below.alloc ?_ (by first | omega | (simp; done) | (simp; omega)) _ | refine Below.setCell ?_ (by first | omega | (simp; done) | (simp; omega)) _))) HP.out HQ.out).mono ?_
    rintro e w1 ⟨PX, px, QX, qx, rfl, hin, hlow, hb⟩
    have hz := hb.size
    simp only [World.size_alloc] at hz
    have R2 : w1.heap[w.heap.size + 1 + 1]? = some (.cells #[.slice none 0 0, .slice none 0 0] 41 (0, 0)) := (hb.block _ (by simp)).trans (by rw [heap_alloc_if, if_pos (by simp)])
    have o0 := cell_of_row w1 _ 0 _ _ _ R2
    have o1 := cell_of_row w1 _ 1 _ _ _ R2
    have g0 := frozen_of_row w1 _ 0 _ _ R2
    have g1 := frozen_of_row w1 _ 1 _ _ R2
    have hl3 : w.heap.size + 1 + 1 < w1.heap.size := by omega
    have hbw : Below w.heap.size w w1 := Below.trans (by repeat (first | exact Below.refl _ _ | assumption | refine Below.drew ?_ | refine below_drewN ?_ _ | refine Below.alloc ?_ (by first | omega | (simp; done) | (simp; omega)) _ | refine Below.setCell ?_ (by first | omega | (simp; done) | (simp; omega)) _)) (hb.mono (show w.heap.size ≤ _ from (by first | omega | (simp; done) | (simp; omega))))
    have HIN := hid hin
    have HLOW := hid hlow
    clear hin hlow hb R2
    go_wp2
    refine bodyPost_ret (v := .agg #[.slice PX s.pairs.length px, .slice QX (s.queue ++ [val]).length qx]) (by simp [results, Try.results51, go_sem, o0, o1]) rfl ⟨PX, px, QX, qx, rfl, ?_, .inl ⟨HLOW.out.1.mono (by simp; omega), HLOW.out.2.mono (by simp; omega)⟩, (by repeat (first | exact Below.refl _ _ | assumption | refine Below.drew ?_ | refine below_drewN ?_ _ | refine Below.alloc ?_ (by first | omega | (simp; done) | (simp; omega)) _ | refine Below.setCell ?_ (by first | omega | (simp; done) | (simp; omega)) _))⟩
    simpa using (HIN.out.lowCell (p := ⟨w.heap.size + 1 + 1, 0, none⟩) HLOW.out (by simp) (.slice PX _ px)).lowCell (p := ⟨w.heap.size + 1 + 1, 1, none⟩) HLOW.out (by simp) (.slice QX _ qx)
  by_cases h4 : kind = 4
  · subst h4
    have hd : doE ⟨4, key, val, id, ver, epoch, group⟩ s = ⟨s.pairs, s.queue.tail⟩ := rfl
    rw [hd]
    clear hd
    go_enter Try.func51, Try.ntmps51
    go_wp2_with fail
    refine (refpop_any s PA pc QA qc _ (in_below H.out (by repeat (first | exact Below.refl _ _ | assumption | refine Below.drew ?_ | refine below_drewN ?_ _ | refine Below.alloc ?_ (by first | omega | (simp; done) | (simp; omega)) _ | refine Below.setCell ?_ (by first | omega | (simp; done) | (simp; omega)) _))) HP.out HQ.out).mono ?_
    rintro e w1 ⟨PX, px, QX, qx, rfl, hin, hlow, hb⟩
    have hz := hb.size
    simp only [World.size_alloc] at hz
    have R2 : w1.heap[w.heap.size + 1 + 1]? = some (.cells #[.slice none 0 0, .slice none 0 0] 41 (0, 0)) := (hb.block _ (by simp)).trans (by rw [heap_alloc_if, if_pos (by simp)])
    have o0 := cell_of_row w1 _ 0 _ _ _ R2
    have o1 := cell_of_row w1 _ 1 _ _ _ R2
    have g0 := frozen_of_row w1 _ 0 _ _ R2
    have g1 := frozen_of_row w1 _ 1 _ _ R2
    have hl3 : w.heap.size + 1 + 1 < w1.heap.size := by omega
    have hbw : Below w.heap.size w w1 := Below.trans (by repeat (first | exact Below.refl _ _ | assumption | refine Below.drew ?_ | refine below_drewN ?_ _ | refine Below.alloc ?_ (by first | omega | (simp; done) | (simp; omega)) _ | refine Below.setCell ?_ (by first | omega | (simp; done) | (simp; omega)) _)) (hb.mono (show w.heap.size ≤ _ from (by first | omega | (simp; done) | (simp; omega))))
    have HIN := hid hin
    have HLOW := hid hlow
    clear hin hlow hb R2
    go_wp2
    refine bodyPost_ret (v := .agg #[.slice PX s.pairs.length px, .slice QX s.queue.tail.length qx]) (by simp [results, Try.results51, go_sem, o0, o1]) rfl ⟨PX, px, QX, qx, rfl, ?_, .inl ⟨HLOW.out.1.mono (by simp; omega), HLOW.out.2.mono (by simp; omega)⟩, (by repeat (first | exact Below.refl _ _ | assumption | refine Below.drew ?_ | refine below_drewN ?_ _ | refine Below.alloc ?_ (by first | omega | (simp; done) | (simp; omega)) _ | refine Below.setCell ?_ (by first | omega | (simp; done) | (simp; omega)) _))⟩
    simpa using (HIN.out.lowCell (p := ⟨w.heap.size + 1 + 1, 0, none⟩) HLOW.out (by simp) (.slice PX _ px)).lowCell (p := ⟨w.heap.size + 1 + 1, 1, none⟩) HLOW.out (by simp) (.slice QX _ qx)
  · have hd : doE ⟨kind, key, val, id, ver, epoch, group⟩ s = s := by simp [doE, h1, h2, h3, h4]
    rw [hd]
    clear hd
    have g1 : (kind == 1) = false := by simpa using h1
    have g2 : (kind == 2) = false := by simpa using h2
    have g3 : (kind == 3) = false := by simpa using h3
    have g4 : (kind == 4) = false := by simpa using h4
    clear h1 h2 h3 h4
    go_enter Try.func51, Try.ntmps51
    go_wp2_with fail
    refine bodyPost_ret (v := .agg #[.slice PA s.pairs.length pc, .slice QA s.queue.length qc]) (by simp [results, Try.results51, go_sem]) rfl ⟨PA, pc, QA, qc, rfl, (in_below H.out (by repeat (first | exact Below.refl _ _ | assumption | refine Below.drew ?_ | refine below_drewN ?_ _ | refine Below.alloc ?_ (by first | omega | (simp; done) | (simp; omega)) _ | refine Below.setCell ?_ (by first | omega | (simp; done) | (simp; omega)) _))), .inr ⟨rfl, rfl, rfl⟩, (by repeat (first | exact Below.refl _ _ | assumption | refine Below.drew ?_ | refine below_drewN ?_ _ | refine Below.alloc ?_ (by first | omega | (simp; done) | (simp; omega)) _ | refine Below.setCell ?_ (by first | omega | (simp; done) | (simp; omega)) _))⟩
end Go.Proofs.Ythpegmeebhkhbaa
