/- fuseelaw0.CopyShelf: a store in memory of its own. -/
import Derived.Test.YtamcehfcjcmpmaaGreatDoorIdl12
import Derived.Test.YtamcehfcjcmpmaaGreatDoorDrop
namespace Go.Proofs.YtamcehfcjcmpmaaGreatDoor
open Go.RowKit

theorem keptG {W W' : World} {n : Nat} {A : Option Addr} {v0 v1 : Value} (hg : W.grownBy W' (rowOf A 0)) (hB : n < W.heap.size) (h : W.cell? ⟨n, 0, none⟩ = some v0 ∧ W.cell? ⟨n, 1, none⟩ = some v1) :
    W'.cell? ⟨n, 0, none⟩ = some v0 ∧ W'.cell? ⟨n, 1, none⟩ = some v1 := by
  rw [grown_cell hg (p := ⟨n, 0, none⟩) hB (by simp [rowOf]), grown_cell hg (p := ⟨n, 1, none⟩) hB (by simp [rowOf])]
  exact h
theorem belowG {w W W' : World} {A : Option Addr} (hg : W.grownBy W' (rowOf A 0)) (h : Below w.heap.size w W) : Below w.heap.size w W' := h.grown hg h.size (fun k hk => by simp [rowOf] at hk)
theorem Own.up {α : Type} {enc : α → List Value} {e : TypeId} {k : Nat} {w : World} {lo B : Nat} {A : Option Addr} {c : Nat} {l : List α} (h : Own enc e k w lo A c l) (hloc : A = none ∧ c = 0 ∨ ∃ g, A = some ⟨g, 0, none⟩ ∧ B ≤ g) : Own enc e k w B A c l := by
  obtain ⟨h1, h2, h3⟩ := h
  refine ⟨h1, h2, ?_⟩
  rcases h3 with h3 | ⟨b, off, cur, hA, hlo, hr⟩
  · exact .inl h3
  · rcases hloc with ⟨_, hc⟩ | ⟨g, hg, hB⟩
    · exact .inl hc
    · rw [hA] at hg
      cases hg
      exact .inr ⟨_, _, cur, hA, hB, hr⟩
set_option maxHeartbeats 4000000 in
set_option maxRecDepth 100000 in
theorem copyShelf_any (s : Shelf) (PA : Option Addr) (pc : Nat) (QA : Option Addr) (qc : Nat) (w : World) (h : ShIn w w.heap.size PA pc QA qc s) (hp : s.pairs.length ≤ 1000000) (hq : s.queue.length ≤ 1000000) :
    Calls Tryz.prog 8 #[.agg #[.slice PA s.pairs.length pc, .slice QA s.queue.length qc]] w (GivesSh s w) := by
  have H := hid h
  have HP := hid hp
  have HQ := hid hq
  clear h hp hq
  obtain ⟨i0, hi0, hz0, hz1, hz2⟩ := info_parts info_pair
  obtain ⟨i1, hi1, hy0, hy1, hy2⟩ := info_parts info_string
  have HI := hid hi0
  have HZ0 := hid hz0
  have HZ1 := hid hz1
  have HZ2 := hid hz2
  have HJ := hid hi1
  have HY0 := hid hy0
  have HY1 := hid hy1
  have HY2 := hid hy2
  clear hi0 hz0 hz1 hz2 hi1 hy0 hy1 hy2
  go_enter Tryz.func8, Tryz.ntmps8
  go_wp2_with fail
  go_region_held3 (fun w' => w'.cell? ⟨w.heap.size, 0, none⟩ = some (.slice PA s.pairs.length pc) ∧ w'.cell? ⟨w.heap.size, 1, none⟩ = some (.slice QA s.queue.length qc)) (first | exact keptG hgrQ (by first | (simp; done) | (simp; omega) | omega) (by assumption) | exact keptG hgrP (by first | (simp; done) | (simp; omega) | omega) (by assumption) | go_keep) (first | (refine step_append_Own (l := []) (m := s.pairs) (A := none) (c := 0) (lo := w.heap.size) (B := w.heap.size) _ (by rfl) (.const (.slice none 0 0)) (.tmp 4) 22 (by rfl) i0 _ 32 Tryz.underlying22 HI.out HZ0.out HZ1.out HZ2.out rfl (by decide) Pair.enc_len Pair.enc_one (by rfl) Own.none_ pc (by rfl) (by first | exact H.out.pairs.below hbQ | exact H.out.pairs.below (by repeat (first | exact Below.refl _ _ | assumption | refine Below.drew ?_ | refine below_drewN ?_ _ | refine Below.alloc ?_ (by first | omega | (simp; done) | (simp; omega)) _ | refine Below.setCell ?_ (by first | omega | (simp; done) | (simp; omega)) _))) (by have := HP.out; unfold maxLen; rw [List.length_nil]; omega) (by have := HP.out; rw [List.length_nil]; omega) (by first | (simp; done) | (simp; omega) | omega) ?_; intro AP cP wP hownP hgrP hlocP; have hbP : Below w.heap.size w wP := (by first | exact belowG hgrP (by repeat (first | exact Below.refl _ _ | assumption | refine Below.drew ?_ | refine below_drewN ?_ _ | refine Below.alloc ?_ (by first | omega | (simp; done) | (simp; omega)) _ | refine Below.setCell ?_ (by first | omega | (simp; done) | (simp; omega)) _)) | exact belowG hgrP hbQ.drew); have hzP : w.heap.size + 2 ≤ wP.heap.size := (by have := hgrP.size; first | omega | (simp only [World.size_drew, World.size_alloc] at this; omega) | (simp at this; omega)); have BP : wP.heap[w.heap.size + 1]? = some (.cells #[.slice none 0 0, .slice none 0 0] 25 (0, 0)) := (hgrP.block _ (by first | (simp; done) | (simp; omega) | omega) (by simp [rowOf])).trans (by first | exact BQ | (rw [show ∀ (x : World), x.drew.heap = x.heap from fun _ => rfl, heap_alloc_if, if_pos (by simp)])); have e0 := cell_of_row wP _ 0 _ _ _ BP; have e1 := cell_of_row wP _ 1 _ _ _ BP; have g0 := frozen_of_row wP _ 0 _ _ BP; have g1 := frozen_of_row wP _ 1 _ _ BP) | (refine step_append_Own (l := []) (m := s.queue) (A := none) (c := 0) (lo := w.heap.size) (B := w.heap.size) _ (by rfl) (.const (.slice none 0 0)) (.tmp 7) 23 (by rfl) i1 _ 16 Tryz.underlying23 HJ.out HY0.out HY1.out HY2.out rfl (by decide) txt_len txt_one (by rfl) Own.none_ qc (by rfl) (by first | exact H.out.queue.below hbP | exact H.out.queue.below (by repeat (first | exact Below.refl _ _ | assumption | refine Below.drew ?_ | refine below_drewN ?_ _ | refine Below.alloc ?_ (by first | omega | (simp; done) | (simp; omega)) _ | refine Below.setCell ?_ (by first | omega | (simp; done) | (simp; omega)) _))) (by have := HQ.out; unfold maxLen; rw [List.length_nil]; omega) (by have := HQ.out; rw [List.length_nil]; omega) (by first | (simp; done) | (simp; omega) | omega) ?_; intro AQ cQ wQ hownQ hgrQ hlocQ; have hbQ : Below w.heap.size w wQ := (by first | exact belowG hgrQ (by repeat (first | exact Below.refl _ _ | assumption | refine Below.drew ?_ | refine below_drewN ?_ _ | refine Below.alloc ?_ (by first | omega | (simp; done) | (simp; omega)) _ | refine Below.setCell ?_ (by first | omega | (simp; done) | (simp; omega)) _)) | exact belowG hgrQ hbP.drew); have hzQ : w.heap.size + 2 ≤ wQ.heap.size := (by have := hgrQ.size; first | omega | (simp only [World.size_drew, World.size_alloc] at this; omega) | (simp at this; omega)); have BQ : wQ.heap[w.heap.size + 1]? = some (.cells #[.slice none 0 0, .slice none 0 0] 25 (0, 0)) := (hgrQ.block _ (by first | (simp; done) | (simp; omega) | omega) (by simp [rowOf])).trans (by first | exact BP | (rw [show ∀ (x : World), x.drew.heap = x.heap from fun _ => rfl, heap_alloc_if, if_pos (by simp)])); have e0 := cell_of_row wQ _ 0 _ _ _ BQ; have e1 := cell_of_row wQ _ 1 _ _ _ BQ; have g0 := frozen_of_row wQ _ 0 _ _ BQ; have g1 := frozen_of_row wQ _ 1 _ _ BQ))
  go_wp2
  have hP := (hownP.up (B := w.heap.size + 2) (hlocP.imp id fun ⟨g, h1, h2⟩ => ⟨g, h1, by simpa using h2⟩)).grown hgrQ (fun b off _ => by simp [rowOf])
  have hQ := hownQ.up (B := wP.heap.size) (hlocQ.imp id fun ⟨g, h1, h2⟩ => ⟨g, h1, h2⟩)
  rw [List.nil_append] at hP hQ
  have hneA : ∀ b o b' o', AP = some ⟨b, o, none⟩ → AQ = some ⟨b', o', none⟩ → cP = 0 ∨ cQ = 0 ∨ b ≠ b' := hownP.apart (w := wP) hQ (Nat.le_refl _)
  refine bodyPost_ret (v := .agg #[.slice AP s.pairs.length cP, .slice AQ s.queue.length cQ]) (by simp [results, Tryz.results8, go_sem, e0, e1]) rfl ⟨AP, cP, AQ, cQ, rfl, ⟨?_, ?_, hneA⟩, (by repeat (first | exact Below.refl _ _ | assumption | refine Below.drew ?_ | refine below_drewN ?_ _ | refine Below.alloc ?_ (by first | omega | (simp; done) | (simp; omega)) _ | refine Below.setCell ?_ (by first | omega | (simp; done) | (simp; omega)) _))⟩
  · exact Own.lower ((hP.setCell (p := ⟨w.heap.size + 1, 0, none⟩) (by simp) _).setCell (p := ⟨w.heap.size + 1, 1, none⟩) (by simp) _) (by first | omega | (simp; done) | (simp; omega))
  · exact Own.lower ((hQ.setCell (p := ⟨w.heap.size + 1, 0, none⟩) (by show _ < wP.heap.size; simp; omega) _).setCell (p := ⟨w.heap.size + 1, 1, none⟩) (by show _ < wP.heap.size; simp; omega) _) (by omega)
end Go.Proofs.YtamcehfcjcmpmaaGreatDoor
