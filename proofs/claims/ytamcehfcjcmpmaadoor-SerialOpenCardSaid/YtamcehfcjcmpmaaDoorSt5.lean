/- serial.counts: is a story one that a row may have? -/
import Derived.Test.YtamcehfcjcmpmaaDoorSt4
namespace Go.Proofs.YtamcehfcjcmpmaaDoor
open Go.RowKit

def countsB (s : Story) : Bool := kindB s.c.kind && (decide (s.en < 0) || decide (s.code = 0))
set_option maxHeartbeats 4000000 in
set_option maxRecDepth 100000 in
theorem counts_any (s : Story) (w : World) (h : StIn w w.heap.size s) : Calls Tryd.prog 49 #[storyV s] w fun e w' => e = .returned (.bool (countsB s)) ∧ Below w.heap.size w w' := by
  have H := hid h
  clear h
  have T : ∀ W, Below w.heap.size w W → W.heap[w.heap.size + 1]? = some (.cells s.enc.toArray 44 (0, 0)) → w.heap.size ≤ W.heap.size → Calls Tryd.prog 23 #[.slice (some ⟨w.heap.size + 1, 0, none⟩) 1 1] W (GivesN (countK [s]) W) := fun W hb hr hz =>
    points_any [s] _ 1 W (arr_oneStory hr) (fun x hx => by rw [List.mem_singleton] at hx; subst hx; exact H.out.up hb) (by simp) (by decide) (by simp)
  unfold storyV
  by_cases hk : kindB s.c.kind = true
  · have e1 : countK [s] = 1 := by simp [countK, hk]
    rw [e1] at T
    by_cases h1 : s.en < 0
    · have e2 : countsB s = true := by simp [countsB, hk, h1]
      rw [e2]
      clear hk e1 e2
      go_enter Tryd.func49, Tryd.ntmps49
      go_wp2_with (go_at_call 23; refine (T _ (by repeat (first | exact Below.refl _ _ | assumption | refine Below.drew ?_ | refine below_drewN ?_ _ | refine Below.alloc ?_ (by first | omega | (simp; done) | (simp; omega)) _ | refine Below.setCell ?_ (by first | omega | (simp; done) | (simp; omega)) _)) ?_ (by first | omega | (simp; done) | (simp; omega))).mono ?_; (rw [heap_alloc_if, if_pos (by simp)]; rfl); rintro e w1 ⟨A1, c1, rfl, hb1⟩; have x6 : w1.cell? ⟨w.heap.size, 6, none⟩ = some (.int .i64 s.code) := (hb1.cell (p := ⟨w.heap.size, 6, none⟩) (by simp; omega)).trans (by simp [go_sem]); have x13 : w1.cell? ⟨w.heap.size, 13, none⟩ = some (.int .i64 s.en) := (hb1.cell (p := ⟨w.heap.size, 13, none⟩) (by simp; omega)).trans (by simp [go_sem]))
      go_ret
      exact ⟨rfl, (show Below w.heap.size w _ from Below.trans (by repeat (first | exact Below.refl _ _ | assumption | refine Below.drew ?_ | refine below_drewN ?_ _ | refine Below.alloc ?_ (by first | omega | (simp; done) | (simp; omega)) _ | refine Below.setCell ?_ (by first | omega | (simp; done) | (simp; omega)) _)) (hb1.mono (by first | omega | (simp; done) | (simp; omega))))⟩
    · have h1' : 0 ≤ s.en := by omega
      have g1 : decide (s.en < 0) = false := by simpa using h1'
      by_cases h2 : s.code = 0
      · have e2 : countsB s = true := by simp [countsB, hk, h2]
        have g2 : (s.code == 0) = true := by simp [h2]
        rw [e2]
        clear hk e1 e2 h2
        go_enter Tryd.func49, Tryd.ntmps49
        go_wp2_with (go_at_call 23; refine (T _ (by repeat (first | exact Below.refl _ _ | assumption | refine Below.drew ?_ | refine below_drewN ?_ _ | refine Below.alloc ?_ (by first | omega | (simp; done) | (simp; omega)) _ | refine Below.setCell ?_ (by first | omega | (simp; done) | (simp; omega)) _)) ?_ (by first | omega | (simp; done) | (simp; omega))).mono ?_; (rw [heap_alloc_if, if_pos (by simp)]; rfl); rintro e w1 ⟨A1, c1, rfl, hb1⟩; have x6 : w1.cell? ⟨w.heap.size, 6, none⟩ = some (.int .i64 s.code) := (hb1.cell (p := ⟨w.heap.size, 6, none⟩) (by simp; omega)).trans (by simp [go_sem]); have x13 : w1.cell? ⟨w.heap.size, 13, none⟩ = some (.int .i64 s.en) := (hb1.cell (p := ⟨w.heap.size, 13, none⟩) (by simp; omega)).trans (by simp [go_sem]))
        go_ret
        exact ⟨rfl, (show Below w.heap.size w _ from Below.trans (by repeat (first | exact Below.refl _ _ | assumption | refine Below.drew ?_ | refine below_drewN ?_ _ | refine Below.alloc ?_ (by first | omega | (simp; done) | (simp; omega)) _ | refine Below.setCell ?_ (by first | omega | (simp; done) | (simp; omega)) _)) (hb1.mono (by first | omega | (simp; done) | (simp; omega))))⟩

      · have e2 : countsB s = false := by simp [countsB, h1, h2]
        have g2 : (s.code == 0) = false := by simpa using h2
        rw [e2]
        clear hk e1 e2
        go_enter Tryd.func49, Tryd.ntmps49
        go_wp2_with (go_at_call 23; refine (T _ (by repeat (first | exact Below.refl _ _ | assumption | refine Below.drew ?_ | refine below_drewN ?_ _ | refine Below.alloc ?_ (by first | omega | (simp; done) | (simp; omega)) _ | refine Below.setCell ?_ (by first | omega | (simp; done) | (simp; omega)) _)) ?_ (by first | omega | (simp; done) | (simp; omega))).mono ?_; (rw [heap_alloc_if, if_pos (by simp)]; rfl); rintro e w1 ⟨A1, c1, rfl, hb1⟩; have x6 : w1.cell? ⟨w.heap.size, 6, none⟩ = some (.int .i64 s.code) := (hb1.cell (p := ⟨w.heap.size, 6, none⟩) (by simp; omega)).trans (by simp [go_sem]); have x13 : w1.cell? ⟨w.heap.size, 13, none⟩ = some (.int .i64 s.en) := (hb1.cell (p := ⟨w.heap.size, 13, none⟩) (by simp; omega)).trans (by simp [go_sem]))
        go_ret
        exact ⟨rfl, (show Below w.heap.size w _ from Below.trans (by repeat (first | exact Below.refl _ _ | assumption | refine Below.drew ?_ | refine below_drewN ?_ _ | refine Below.alloc ?_ (by first | omega | (simp; done) | (simp; omega)) _ | refine Below.setCell ?_ (by first | omega | (simp; done) | (simp; omega)) _)) (hb1.mono (by first | omega | (simp; done) | (simp; omega))))⟩

  · have e1 : countK [s] = 0 := by simp [countK, hk]
    rw [e1] at T
    have e2 : countsB s = false := by simp [countsB, hk]
    rw [e2]
    clear hk e1 e2
    go_enter Tryd.func49, Tryd.ntmps49
    go_wp2_with (go_at_call 23; refine (T _ (by repeat (first | exact Below.refl _ _ | assumption | refine Below.drew ?_ | refine below_drewN ?_ _ | refine Below.alloc ?_ (by first | omega | (simp; done) | (simp; omega)) _ | refine Below.setCell ?_ (by first | omega | (simp; done) | (simp; omega)) _)) ?_ (by first | omega | (simp; done) | (simp; omega))).mono ?_; (rw [heap_alloc_if, if_pos (by simp)]; rfl); rintro e w1 ⟨A1, c1, rfl, hb1⟩; have x6 : w1.cell? ⟨w.heap.size, 6, none⟩ = some (.int .i64 s.code) := (hb1.cell (p := ⟨w.heap.size, 6, none⟩) (by simp; omega)).trans (by simp [go_sem]); have x13 : w1.cell? ⟨w.heap.size, 13, none⟩ = some (.int .i64 s.en) := (hb1.cell (p := ⟨w.heap.size, 13, none⟩) (by simp; omega)).trans (by simp [go_sem]))
    go_ret
    exact ⟨rfl, (show Below w.heap.size w _ from Below.trans (by repeat (first | exact Below.refl _ _ | assumption | refine Below.drew ?_ | refine below_drewN ?_ _ | refine Below.alloc ?_ (by first | omega | (simp; done) | (simp; omega)) _ | refine Below.setCell ?_ (by first | omega | (simp; done) | (simp; omega)) _)) (hb1.mono (by first | omega | (simp; done) | (simp; omega))))⟩

end Go.Proofs.YtamcehfcjcmpmaaDoor
