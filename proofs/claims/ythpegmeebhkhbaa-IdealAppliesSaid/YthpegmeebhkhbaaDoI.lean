/- ideal.Do: what an effect does to a store, by the program. -/
import Derived.Test.YthpegmeebhkhbaaRep
namespace Go.Proofs.Ythpegmeebhkhbaa
open Go.RowKit

theorem Store.fresh {w1 : World} {lo : Nat} {A1 : Option Addr} {c1 : Nat} {A2 : Option Addr} {c2 : Nat} {s : Shelf} (h : ShOwn w1 lo A1 c1 A2 c2 s) (hlo : lo ≤ w1.heap.size) :
    Store (fun j => lo ≤ j) (w1.alloc (.cells #[.slice A1 s.pairs.length c1, .slice A2 s.queue.length c2] 41)) w1.heap.size s := by
  refine ⟨A1, c1, A2, c2, by rw [heap_alloc_if, if_pos rfl], ⟨(h.pairs.alloc _).lower (Nat.zero_le _), (h.queue.alloc _).lower (Nat.zero_le _), h.apart⟩, hlo, ?_, ?_⟩
  · rcases h.pairs.lt with h0 | ⟨b', o', hA, h1, h2⟩
    · exact .inl h0
    · exact .inr fun b2 o2 hA2 => by rw [hA] at hA2; cases hA2; exact ⟨h1, by omega⟩
  · rcases h.queue.lt with h0 | ⟨b', o', hA, h1, h2⟩
    · exact .inl h0
    · exact .inr fun b2 o2 hA2 => by rw [hA] at hA2; cases hA2; exact ⟨h1, by omega⟩
set_option maxHeartbeats 4000000 in
set_option maxRecDepth 100000 in
theorem idealdo_any (s : Shelf) (PA : Option Addr) (pc : Nat) (QA : Option Addr) (qc : Nat) (f : Eff) (w : World) (h : ShIn w w.heap.size PA pc QA qc s) (hp : s.pairs.length ≤ 90000) (hq : s.queue.length ≤ 90000) :
    Calls Try.prog 50 #[.agg #[.slice PA s.pairs.length pc, .slice QA s.queue.length qc], .agg #[.int .i64 f.kind, .string f.key, .string f.val, .int .u64 f.id, .int .u64 f.ver, .int .u64 f.epoch, .int .i64 f.group]] w (GivesSh (doE f s) w) := by
  have H := hid h
  have HP := hid hp
  have HQ := hid hq
  obtain ⟨kind, key, val, id, ver, epoch, group⟩ := f
  clear h hp hq
  by_cases h3 : kind = 3
  · subst h3
    rw [show doE ⟨3, key, val, id, ver, epoch, group⟩ s = ⟨s.pairs, s.queue ++ [val]⟩ from rfl]
    go_enter Try.func50, Try.ntmps50
    go_wp2_with fail
    refine (copied_any s PA pc QA qc _ (in_below H.out (by repeat (first | exact Below.refl _ _ | assumption | refine Below.drew ?_ | refine below_drewN ?_ _ | refine Below.alloc ?_ (by first | omega | (simp; done) | (simp; omega)) _ | refine Below.setCell ?_ (by first | omega | (simp; done) | (simp; omega)) _))) (by have := HP.out; omega) (by have := HQ.out; omega)).mono ?_
    rintro e w1 ⟨A1, c1, A2, c2, rfl, hown, hb1⟩
    have hs1 := hb1.size
    simp only [World.size_alloc] at hs1
    have HBW := hid (show Below w.heap.size w w1 from Below.trans (by repeat (first | exact Below.refl _ _ | assumption | refine Below.drew ?_ | refine below_drewN ?_ _ | refine Below.alloc ?_ (by first | omega | (simp; done) | (simp; omega)) _ | refine Below.setCell ?_ (by first | omega | (simp; done) | (simp; omega)) _)) (hb1.mono (show w.heap.size ≤ _ from (by first | omega | (simp; done) | (simp; omega)))))
    have HR := hid (show w1.heap[w.heap.size + 1 + 1]? = some (.cells #[.slice none 0 0, .slice none 0 0] 41 (0, 0)) from (hb1.block _ (by simp)).trans (by rw [heap_alloc_if, if_pos (by simp)]))
    have R1 : w1.heap[w.heap.size + 1]? = some (.cells #[.int .i64 3, .string key, .string val, .int .u64 id, .int .u64 ver, .int .u64 epoch, .int .i64 group] 86 (0, 0)) := (hb1.block _ (by simp)).trans (by rw [heap_alloc_if, if_neg (by simp), heap_alloc_if, if_pos (by simp)])
    have k0 := cell_of_row w1 _ 0 _ _ _ R1
    have k1 := cell_of_row w1 _ 1 _ _ _ R1
    have k2 := cell_of_row w1 _ 2 _ _ _ R1
    have hl1 : w.heap.size + 1 < w1.heap.size := by omega
    simp only [World.size_alloc] at hown
    have hown : ShOwn w1 (w.heap.size + 3) A1 c1 A2 c2 s := hown
    have HST := hid (Store.fresh hown (lo := w.heap.size + 3) (by have := hb1.size; simp at this; omega) : Store (fun j => w.heap.size + 3 ≤ j) _ _ s)
    have HOW := hid hown
    clear hown hb1 R1
    have HS2 := hid (show Store (fun j => w.heap.size + 3 ≤ j) _ _ s from HST.out)
    go_wp2_with (at_builtin; refine app_txt (l := s.queue) (m := [val]) (A := A2) (c := c2) (lo := 0) _ rfl (.tmp 25) (.tmp 28) rfl rfl (((HOW.out.queue.alloc _).alloc _).lower (Nat.zero_le _)) 1 rfl (arr_one_txt (vb := w1.heap.size + 1) (x := val) (by rw [heap_alloc_if, if_pos (by simp)])) (by have := HQ.out; simp; omega) (Nat.zero_le _) ?_; intro A' c' w' hown' hgr' hloc'; have hrw : ∀ j, rowOf A2 c2 = some j → w.heap.size + 3 ≤ j ∧ j < w1.heap.size := (fun j hj => by unfold rowOf at hj; split at hj; (cases hj); (rcases HOW.out.queue.lt with h0 | ⟨b', o', hA, h1, h2⟩; (exact absurd h0 (by assumption)); (subst hA; simp at hj; have : w.heap.size + 3 ≤ b' := (by simpa using h1); omega))); have hp3 : w'.heap[w1.heap.size]? = some (.cells #[.slice A1 s.pairs.length c1, .slice A2 s.queue.length c2] 41 (0, 0)) := (hgr'.block _ (by simp; omega) fun hr => by have := hrw _ hr.symm; omega).trans ((Below.heap_alloc _ _ _ (by simp)).trans (by rw [heap_alloc_if, if_pos rfl])); have e31 := cell_of_row w' _ 1 _ _ _ hp3; have e30 := cell_of_row w' _ 0 _ _ _ hp3; have f31 := frozen_of_row w' _ 1 _ _ hp3; have q31 : w'.heap[w.heap.size + 1 + 1]? = some (.cells #[.slice none 0 0, .slice none 0 0] 41 (0, 0)) := (hgr'.block _ (by simp; omega) fun hr => by have := hrw _ hr.symm; omega).trans ((Below.heap_alloc _ _ _ (by simp; omega)).trans ((Below.heap_alloc _ _ _ (by omega)).trans HR.out)); have o0 := cell_of_row w' _ 0 _ _ _ q31; have o1 := cell_of_row w' _ 1 _ _ _ q31; have g0 := frozen_of_row w' _ 0 _ _ q31; have g1 := frozen_of_row w' _ 1 _ _ q31; have hnp : ¬ w.heap.size + 1 + 1 = w1.heap.size := (by omega); have hnp2 : ¬ w1.heap.size = w.heap.size + 1 + 1 := (by omega); have hlt2 : w.heap.size + 1 + 1 < w'.heap.size := (by have := hgr'.size; simp at this; omega))
    obtain ⟨r1, r2⟩ : Store (fun j => w.heap.size + 3 ≤ j) (w'.setCell ⟨w1.heap.size, 1, none⟩ (.slice A' (s.queue.length + 1) c')) w1.heap.size ⟨s.pairs, s.queue ++ [val]⟩ ∧ Only (fun j => w.heap.size + 3 ≤ j) (w1.alloc (.cells #[.slice A1 s.pairs.length c1, .slice A2 s.queue.length c2] 41)) (w'.setCell ⟨w1.heap.size, 1, none⟩ (.slice A' (s.queue.length + 1) c')) := by
      obtain ⟨PX, px, QX, qx, s1, s2, s3, s4, s5⟩ := Store.fresh HOW.out (lo := w.heap.size + 3) (by omega)
      have e1 : PX = A1 ∧ px = c1 ∧ QX = A2 ∧ qx = c2 := by
        rw [heap_alloc_if, if_pos rfl] at s1
        simpa [eq_comm, and_assoc] using s1
      obtain ⟨rfl, rfl, rfl, rfl⟩ := e1
      exact Store.putQueue s1 s2 s3 s4 s5 (fun j hj => by simp at hj; omega) (by repeat (first | exact Below.refl _ _ | assumption | refine Below.drew ?_ | refine below_drewN ?_ _ | refine Below.alloc ?_ (by first | omega | (simp; done) | (simp; omega)) _ | refine Below.setCell ?_ (by first | omega | (simp; done) | (simp; omega)) _)) hgr' hown' hloc' (by simp)
    obtain ⟨P', pc', Q', qc', p1, p2, p3, p4, p5⟩ := r1
    have e1 : P' = A1 ∧ pc' = c1 ∧ Q' = A' ∧ qc' = c' := by
      rw [heap_setCell_same w' _ 1 _ _ _ hp3] at p1
      simpa [eq_comm, and_assoc] using p1
    obtain ⟨rfl, rfl, rfl, rfl⟩ := e1
    have hB : Below w.heap.size w (w'.setCell ⟨w1.heap.size, 1, none⟩ (.slice Q' (s.queue.length + 1) qc')) := (HBW.out.alloc (by omega) _).trans (r2.below (lo := w.heap.size) (fun j hj => by omega) (by simp; omega))
    have gP := Own.lower (lo' := w.heap.size) (((p2.pairs.raise p4 (lo' := w.heap.size + 3) fun j hj => hj).setCell (p := ⟨w.heap.size + 1 + 1, 0, none⟩) (by simp) (.slice P' s.pairs.length pc')).setCell (p := ⟨w.heap.size + 1 + 1, 1, none⟩) (by simp) (.slice Q' (s.queue.length + 1) qc')) (by omega)
    have gQ := Own.lower (lo' := w.heap.size) (((p2.queue.raise p5 (lo' := w.heap.size + 3) fun j hj => hj).setCell (p := ⟨w.heap.size + 1 + 1, 0, none⟩) (by simp) (.slice P' s.pairs.length pc')).setCell (p := ⟨w.heap.size + 1 + 1, 1, none⟩) (by simp) (.slice Q' (s.queue.length + 1) qc')) (by omega)
    refine bodyPost_ret (v := .agg #[.slice P' s.pairs.length pc', .slice Q' (s.queue.length + 1) qc']) (by simp [results, Try.results50, go_sem, o0, o1]) rfl ⟨P', pc', Q', qc', by simp, ⟨gP, gQ, p2.apart⟩, (by repeat (first | exact Below.refl _ _ | assumption | refine Below.drew ?_ | refine below_drewN ?_ _ | refine Below.alloc ?_ (by first | omega | (simp; done) | (simp; omega)) _ | refine Below.setCell ?_ (by first | omega | (simp; done) | (simp; omega)) _))⟩
  by_cases h1 : kind = 1
  · subst h1
    rw [show doE ⟨1, key, val, id, ver, epoch, group⟩ s = ⟨setP s.pairs key val, s.queue⟩ from rfl]
    go_enter Try.func50, Try.ntmps50
    go_wp2_with fail
    refine (copied_any s PA pc QA qc _ (in_below H.out (by repeat (first | exact Below.refl _ _ | assumption | refine Below.drew ?_ | refine below_drewN ?_ _ | refine Below.alloc ?_ (by first | omega | (simp; done) | (simp; omega)) _ | refine Below.setCell ?_ (by first | omega | (simp; done) | (simp; omega)) _))) (by have := HP.out; omega) (by have := HQ.out; omega)).mono ?_
    rintro e w1 ⟨A1, c1, A2, c2, rfl, hown, hb1⟩
    have hs1 := hb1.size
    simp only [World.size_alloc] at hs1
    have HBW := hid (show Below w.heap.size w w1 from Below.trans (by repeat (first | exact Below.refl _ _ | assumption | refine Below.drew ?_ | refine below_drewN ?_ _ | refine Below.alloc ?_ (by first | omega | (simp; done) | (simp; omega)) _ | refine Below.setCell ?_ (by first | omega | (simp; done) | (simp; omega)) _)) (hb1.mono (show w.heap.size ≤ _ from (by first | omega | (simp; done) | (simp; omega)))))
    have HR := hid (show w1.heap[w.heap.size + 1 + 1]? = some (.cells #[.slice none 0 0, .slice none 0 0] 41 (0, 0)) from (hb1.block _ (by simp)).trans (by rw [heap_alloc_if, if_pos (by simp)]))
    have R1 : w1.heap[w.heap.size + 1]? = some (.cells #[.int .i64 1, .string key, .string val, .int .u64 id, .int .u64 ver, .int .u64 epoch, .int .i64 group] 86 (0, 0)) := (hb1.block _ (by simp)).trans (by rw [heap_alloc_if, if_neg (by simp), heap_alloc_if, if_pos (by simp)])
    have k0 := cell_of_row w1 _ 0 _ _ _ R1
    have k1 := cell_of_row w1 _ 1 _ _ _ R1
    have k2 := cell_of_row w1 _ 2 _ _ _ R1
    have hl1 : w.heap.size + 1 < w1.heap.size := by omega
    simp only [World.size_alloc] at hown
    have hown : ShOwn w1 (w.heap.size + 3) A1 c1 A2 c2 s := hown
    have HST := hid (Store.fresh hown (lo := w.heap.size + 3) (by have := hb1.size; simp at this; omega) : Store (fun j => w.heap.size + 3 ≤ j) _ _ s)
    have HOW := hid hown
    clear hown hb1 R1
    go_wp2_with fail
    refine (set_any _ _ s key val _ HST.out (fun j hj => by simp at hj; omega) (by have := HP.out; omega)).mono ?_
    rintro e w4 ⟨rfl, hst, hon⟩
    obtain ⟨P', pc', Q', qc', p1, p2, p3, p4, p5⟩ := hst
    have hlt2 : w.heap.size + 1 + 1 < w4.heap.size := by have := hon.size; have := hs1; simp at *; omega
    have hltp : w1.heap.size < w4.heap.size := lt_of_heap p1
    have R2 : w4.heap[w.heap.size + 1 + 1]? = some (.cells #[.slice none 0 0, .slice none 0 0] 41 (0, 0)) := (hon.block _ (by simp; omega) (by omega)).trans ((Below.heap_alloc _ _ _ (by omega)).trans HR.out)
    have o0 := cell_of_row w4 _ 0 _ _ _ R2
    have o1 := cell_of_row w4 _ 1 _ _ _ R2
    have g0 := frozen_of_row w4 _ 0 _ _ R2
    have g1 := frozen_of_row w4 _ 1 _ _ R2
    have x0 := cell_of_row w4 _ 0 _ _ _ p1
    have x1 := cell_of_row w4 _ 1 _ _ _ p1
    have hnp : ¬ w.heap.size + 1 + 1 = w1.heap.size := by omega
    have hnp2 : ¬ w1.heap.size = w.heap.size + 1 + 1 := by omega
    have hB : Below w.heap.size w w4 := (HBW.out.alloc (by omega) _).trans (hon.below (lo := w.heap.size) (fun j hj => by omega) (by simp; omega))
    have gP := Own.lower (lo' := w.heap.size) (((p2.pairs.raise p4 (lo' := w.heap.size + 3) fun j hj => hj).setCell (p := ⟨w.heap.size + 1 + 1, 0, none⟩) (by simp) (.slice P' (setP s.pairs key val).length pc')).setCell (p := ⟨w.heap.size + 1 + 1, 1, none⟩) (by simp) (.slice Q' s.queue.length qc')) (by omega)
    have gQ := Own.lower (lo' := w.heap.size) (((p2.queue.raise p5 (lo' := w.heap.size + 3) fun j hj => hj).setCell (p := ⟨w.heap.size + 1 + 1, 0, none⟩) (by simp) (.slice P' (setP s.pairs key val).length pc')).setCell (p := ⟨w.heap.size + 1 + 1, 1, none⟩) (by simp) (.slice Q' s.queue.length qc')) (by omega)
    have HG := hid gP
    have HGQ := hid gQ
    have HAP := hid p2.apart
    clear hon p1 p2 p3 p4 p5 R2 gP gQ
    go_wp2
    refine bodyPost_ret (v := .agg #[.slice P' (setP s.pairs key val).length pc', .slice Q' s.queue.length qc']) (by simp [results, Try.results50, go_sem, o0, o1]) rfl ⟨P', pc', Q', qc', by first | rfl | simp, ⟨HG.out, HGQ.out, HAP.out⟩, (by repeat (first | exact Below.refl _ _ | assumption | refine Below.drew ?_ | refine below_drewN ?_ _ | refine Below.alloc ?_ (by first | omega | (simp; done) | (simp; omega)) _ | refine Below.setCell ?_ (by first | omega | (simp; done) | (simp; omega)) _))⟩
  by_cases h2 : kind = 2
  · subst h2
    rw [show doE ⟨2, key, val, id, ver, epoch, group⟩ s = ⟨dropK key s.pairs, s.queue⟩ from rfl]
    go_enter Try.func50, Try.ntmps50
    go_wp2_with fail
    refine (copied_any s PA pc QA qc _ (in_below H.out (by repeat (first | exact Below.refl _ _ | assumption | refine Below.drew ?_ | refine below_drewN ?_ _ | refine Below.alloc ?_ (by first | omega | (simp; done) | (simp; omega)) _ | refine Below.setCell ?_ (by first | omega | (simp; done) | (simp; omega)) _))) (by have := HP.out; omega) (by have := HQ.out; omega)).mono ?_
    rintro e w1 ⟨A1, c1, A2, c2, rfl, hown, hb1⟩
    have hs1 := hb1.size
    simp only [World.size_alloc] at hs1
    have HBW := hid (show Below w.heap.size w w1 from Below.trans (by repeat (first | exact Below.refl _ _ | assumption | refine Below.drew ?_ | refine below_drewN ?_ _ | refine Below.alloc ?_ (by first | omega | (simp; done) | (simp; omega)) _ | refine Below.setCell ?_ (by first | omega | (simp; done) | (simp; omega)) _)) (hb1.mono (show w.heap.size ≤ _ from (by first | omega | (simp; done) | (simp; omega)))))
    have HR := hid (show w1.heap[w.heap.size + 1 + 1]? = some (.cells #[.slice none 0 0, .slice none 0 0] 41 (0, 0)) from (hb1.block _ (by simp)).trans (by rw [heap_alloc_if, if_pos (by simp)]))
    have R1 : w1.heap[w.heap.size + 1]? = some (.cells #[.int .i64 2, .string key, .string val, .int .u64 id, .int .u64 ver, .int .u64 epoch, .int .i64 group] 86 (0, 0)) := (hb1.block _ (by simp)).trans (by rw [heap_alloc_if, if_neg (by simp), heap_alloc_if, if_pos (by simp)])
    have k0 := cell_of_row w1 _ 0 _ _ _ R1
    have k1 := cell_of_row w1 _ 1 _ _ _ R1
    have k2 := cell_of_row w1 _ 2 _ _ _ R1
    have hl1 : w.heap.size + 1 < w1.heap.size := by omega
    simp only [World.size_alloc] at hown
    have hown : ShOwn w1 (w.heap.size + 3) A1 c1 A2 c2 s := hown
    have HST := hid (Store.fresh hown (lo := w.heap.size + 3) (by have := hb1.size; simp at this; omega) : Store (fun j => w.heap.size + 3 ≤ j) _ _ s)
    have HOW := hid hown
    clear hown hb1 R1
    go_wp2_with fail
    refine (drop_any _ _ s key _ HST.out (fun j hj => by simp at hj; omega)).mono ?_
    rintro e w4 ⟨rfl, hst, hon⟩
    obtain ⟨P', pc', Q', qc', p1, p2, p3, p4, p5⟩ := hst
    have hlt2 : w.heap.size + 1 + 1 < w4.heap.size := by have := hon.size; have := hs1; simp at *; omega
    have hltp : w1.heap.size < w4.heap.size := lt_of_heap p1
    have R2 : w4.heap[w.heap.size + 1 + 1]? = some (.cells #[.slice none 0 0, .slice none 0 0] 41 (0, 0)) := (hon.block _ (by simp; omega) (by omega)).trans ((Below.heap_alloc _ _ _ (by omega)).trans HR.out)
    have o0 := cell_of_row w4 _ 0 _ _ _ R2
    have o1 := cell_of_row w4 _ 1 _ _ _ R2
    have g0 := frozen_of_row w4 _ 0 _ _ R2
    have g1 := frozen_of_row w4 _ 1 _ _ R2
    have x0 := cell_of_row w4 _ 0 _ _ _ p1
    have x1 := cell_of_row w4 _ 1 _ _ _ p1
    have hnp : ¬ w.heap.size + 1 + 1 = w1.heap.size := by omega
    have hnp2 : ¬ w1.heap.size = w.heap.size + 1 + 1 := by omega
    have hB : Below w.heap.size w w4 := (HBW.out.alloc (by omega) _).trans (hon.below (lo := w.heap.size) (fun j hj => by omega) (by simp; omega))
    have gP := Own.lower (lo' := w.heap.size) (((p2.pairs.raise p4 (lo' := w.heap.size + 3) fun j hj => hj).setCell (p := ⟨w.heap.size + 1 + 1, 0, none⟩) (by simp) (.slice P' (dropK key s.pairs).length pc')).setCell (p := ⟨w.heap.size + 1 + 1, 1, none⟩) (by simp) (.slice Q' s.queue.length qc')) (by omega)
    have gQ := Own.lower (lo' := w.heap.size) (((p2.queue.raise p5 (lo' := w.heap.size + 3) fun j hj => hj).setCell (p := ⟨w.heap.size + 1 + 1, 0, none⟩) (by simp) (.slice P' (dropK key s.pairs).length pc')).setCell (p := ⟨w.heap.size + 1 + 1, 1, none⟩) (by simp) (.slice Q' s.queue.length qc')) (by omega)
    have HG := hid gP
    have HGQ := hid gQ
    have HAP := hid p2.apart
    clear hon p1 p2 p3 p4 p5 R2 gP gQ
    go_wp2
    refine bodyPost_ret (v := .agg #[.slice P' (dropK key s.pairs).length pc', .slice Q' s.queue.length qc']) (by simp [results, Try.results50, go_sem, o0, o1]) rfl ⟨P', pc', Q', qc', by first | rfl | simp, ⟨HG.out, HGQ.out, HAP.out⟩, (by repeat (first | exact Below.refl _ _ | assumption | refine Below.drew ?_ | refine below_drewN ?_ _ | refine Below.alloc ?_ (by first | omega | (simp; done) | (simp; omega)) _ | refine Below.setCell ?_ (by first | omega | (simp; done) | (simp; omega)) _))⟩
  by_cases h4 : kind = 4
  · subst h4
    rw [show doE ⟨4, key, val, id, ver, epoch, group⟩ s = ⟨s.pairs, s.queue.tail⟩ from rfl]
    go_enter Try.func50, Try.ntmps50
    go_wp2_with fail
    refine (copied_any s PA pc QA qc _ (in_below H.out (by repeat (first | exact Below.refl _ _ | assumption | refine Below.drew ?_ | refine below_drewN ?_ _ | refine Below.alloc ?_ (by first | omega | (simp; done) | (simp; omega)) _ | refine Below.setCell ?_ (by first | omega | (simp; done) | (simp; omega)) _))) (by have := HP.out; omega) (by have := HQ.out; omega)).mono ?_
    rintro e w1 ⟨A1, c1, A2, c2, rfl, hown, hb1⟩
    have hs1 := hb1.size
    simp only [World.size_alloc] at hs1
    have HBW := hid (show Below w.heap.size w w1 from Below.trans (by repeat (first | exact Below.refl _ _ | assumption | refine Below.drew ?_ | refine below_drewN ?_ _ | refine Below.alloc ?_ (by first | omega | (simp; done) | (simp; omega)) _ | refine Below.setCell ?_ (by first | omega | (simp; done) | (simp; omega)) _)) (hb1.mono (show w.heap.size ≤ _ from (by first | omega | (simp; done) | (simp; omega)))))
    have HR := hid (show w1.heap[w.heap.size + 1 + 1]? = some (.cells #[.slice none 0 0, .slice none 0 0] 41 (0, 0)) from (hb1.block _ (by simp)).trans (by rw [heap_alloc_if, if_pos (by simp)]))
    have R1 : w1.heap[w.heap.size + 1]? = some (.cells #[.int .i64 4, .string key, .string val, .int .u64 id, .int .u64 ver, .int .u64 epoch, .int .i64 group] 86 (0, 0)) := (hb1.block _ (by simp)).trans (by rw [heap_alloc_if, if_neg (by simp), heap_alloc_if, if_pos (by simp)])
    have k0 := cell_of_row w1 _ 0 _ _ _ R1
    have k1 := cell_of_row w1 _ 1 _ _ _ R1
    have k2 := cell_of_row w1 _ 2 _ _ _ R1
    have hl1 : w.heap.size + 1 < w1.heap.size := by omega
    simp only [World.size_alloc] at hown
    have hown : ShOwn w1 (w.heap.size + 3) A1 c1 A2 c2 s := hown
    have HST := hid (Store.fresh hown (lo := w.heap.size + 3) (by have := hb1.size; simp at this; omega) : Store (fun j => w.heap.size + 3 ≤ j) _ _ s)
    have HOW := hid hown
    clear hown hb1 R1
    go_wp2_with fail
    refine (pop_any _ _ s _ HST.out).mono ?_
    rintro e w4 ⟨rfl, hst, hon⟩
    obtain ⟨P', pc', Q', qc', p1, p2, p3, p4, p5⟩ := hst
    have hlt2 : w.heap.size + 1 + 1 < w4.heap.size := by have := hon.size; have := hs1; simp at *; omega
    have hltp : w1.heap.size < w4.heap.size := lt_of_heap p1
    have R2 : w4.heap[w.heap.size + 1 + 1]? = some (.cells #[.slice none 0 0, .slice none 0 0] 41 (0, 0)) := (hon.block _ (by simp; omega) (by omega)).trans ((Below.heap_alloc _ _ _ (by omega)).trans HR.out)
    have o0 := cell_of_row w4 _ 0 _ _ _ R2
    have o1 := cell_of_row w4 _ 1 _ _ _ R2
    have g0 := frozen_of_row w4 _ 0 _ _ R2
    have g1 := frozen_of_row w4 _ 1 _ _ R2
    have x0 := cell_of_row w4 _ 0 _ _ _ p1
    have x1 := cell_of_row w4 _ 1 _ _ _ p1
    have hnp : ¬ w.heap.size + 1 + 1 = w1.heap.size := by omega
    have hnp2 : ¬ w1.heap.size = w.heap.size + 1 + 1 := by omega
    have hB : Below w.heap.size w w4 := (HBW.out.alloc (by omega) _).trans (hon.below (lo := w.heap.size) (fun j hj => by omega) (by simp; omega))
    have gP := Own.lower (lo' := w.heap.size) (((p2.pairs.raise p4 (lo' := w.heap.size + 3) fun j hj => hj).setCell (p := ⟨w.heap.size + 1 + 1, 0, none⟩) (by simp) (.slice P' s.pairs.length pc')).setCell (p := ⟨w.heap.size + 1 + 1, 1, none⟩) (by simp) (.slice Q' (s.queue.length - 1) qc')) (by omega)
    have gQ := Own.lower (lo' := w.heap.size) (((p2.queue.raise p5 (lo' := w.heap.size + 3) fun j hj => hj).setCell (p := ⟨w.heap.size + 1 + 1, 0, none⟩) (by simp) (.slice P' s.pairs.length pc')).setCell (p := ⟨w.heap.size + 1 + 1, 1, none⟩) (by simp) (.slice Q' (s.queue.length - 1) qc')) (by omega)
    have HG := hid gP
    have HGQ := hid gQ
    have HAP := hid p2.apart
    clear hon p1 p2 p3 p4 p5 R2 gP gQ
    go_wp2
    refine bodyPost_ret (v := .agg #[.slice P' s.pairs.length pc', .slice Q' (s.queue.length - 1) qc']) (by simp [results, Try.results50, go_sem, o0, o1]) rfl ⟨P', pc', Q', qc', by first | rfl | simp, ⟨HG.out, HGQ.out, HAP.out⟩, (by repeat (first | exact Below.refl _ _ | assumption | refine Below.drew ?_ | refine below_drewN ?_ _ | refine Below.alloc ?_ (by first | omega | (simp; done) | (simp; omega)) _ | refine Below.setCell ?_ (by first | omega | (simp; done) | (simp; omega)) _))⟩
  · rw [show doE ⟨kind, key, val, id, ver, epoch, group⟩ s = s by simp [doE, h1, h2, h3, h4]]
    have z1 : (kind == 1) = false := by simpa using h1
    have z2 : (kind == 2) = false := by simpa using h2
    have z3 : (kind == 3) = false := by simpa using h3
    have z4 : (kind == 4) = false := by simpa using h4
    clear h1 h2 h3 h4
    go_enter Try.func50, Try.ntmps50
    go_wp2_with fail
    refine (copied_any s PA pc QA qc _ (in_below H.out (by repeat (first | exact Below.refl _ _ | assumption | refine Below.drew ?_ | refine below_drewN ?_ _ | refine Below.alloc ?_ (by first | omega | (simp; done) | (simp; omega)) _ | refine Below.setCell ?_ (by first | omega | (simp; done) | (simp; omega)) _))) (by have := HP.out; omega) (by have := HQ.out; omega)).mono ?_
    rintro e w1 ⟨A1, c1, A2, c2, rfl, hown, hb1⟩
    have hs1 := hb1.size
    simp only [World.size_alloc] at hs1
    have HBW := hid (show Below w.heap.size w w1 from Below.trans (by repeat (first | exact Below.refl _ _ | assumption | refine Below.drew ?_ | refine below_drewN ?_ _ | refine Below.alloc ?_ (by first | omega | (simp; done) | (simp; omega)) _ | refine Below.setCell ?_ (by first | omega | (simp; done) | (simp; omega)) _)) (hb1.mono (show w.heap.size ≤ _ from (by first | omega | (simp; done) | (simp; omega)))))
    have HR := hid (show w1.heap[w.heap.size + 1 + 1]? = some (.cells #[.slice none 0 0, .slice none 0 0] 41 (0, 0)) from (hb1.block _ (by simp)).trans (by rw [heap_alloc_if, if_pos (by simp)]))
    have R1 : w1.heap[w.heap.size + 1]? = some (.cells #[.int .i64 kind, .string key, .string val, .int .u64 id, .int .u64 ver, .int .u64 epoch, .int .i64 group] 86 (0, 0)) := (hb1.block _ (by simp)).trans (by rw [heap_alloc_if, if_neg (by simp), heap_alloc_if, if_pos (by simp)])
    have k0 := cell_of_row w1 _ 0 _ _ _ R1
    have k1 := cell_of_row w1 _ 1 _ _ _ R1
    have k2 := cell_of_row w1 _ 2 _ _ _ R1
    have hl1 : w.heap.size + 1 < w1.heap.size := by omega
    simp only [World.size_alloc] at hown
    have hown : ShOwn w1 (w.heap.size + 3) A1 c1 A2 c2 s := hown
    have HST := hid (Store.fresh hown (lo := w.heap.size + 3) (by have := hb1.size; simp at this; omega) : Store (fun j => w.heap.size + 3 ≤ j) _ _ s)
    have HOW := hid hown
    clear hown hb1 R1
    obtain ⟨w4, hw4⟩ : ∃ w4, w4 = w1.alloc (.cells #[.slice A1 s.pairs.length c1, .slice A2 s.queue.length c2] 41) := ⟨_, rfl⟩
    have g0 := frozen_of_row w1 _ 0 _ _ HR.out
    have g1 := frozen_of_row w1 _ 1 _ _ HR.out
    have o0 := cell_of_row w1 _ 0 _ _ _ HR.out
    have o1 := cell_of_row w1 _ 1 _ _ _ HR.out
    have hl2 : w.heap.size + 1 + 1 < w1.heap.size := by omega
    have hnp : ¬ w.heap.size + 1 + 1 = w1.heap.size := by omega
    have hnp2 : ¬ w1.heap.size = w.heap.size + 1 + 1 := by omega
    clear hw4 w4
    go_wp2
    have gP := Own.lower (lo' := w.heap.size) (((HOW.out.pairs.setCell (p := ⟨w.heap.size + 1 + 1, 0, none⟩) (by simp) (.slice A1 s.pairs.length c1)).setCell (p := ⟨w.heap.size + 1 + 1, 1, none⟩) (by simp) (.slice A2 s.queue.length c2)).alloc (.cells #[.slice A1 s.pairs.length c1, .slice A2 s.queue.length c2] 41)) (by simp)
    have gQ := Own.lower (lo' := w.heap.size) (((HOW.out.queue.setCell (p := ⟨w.heap.size + 1 + 1, 0, none⟩) (by simp) (.slice A1 s.pairs.length c1)).setCell (p := ⟨w.heap.size + 1 + 1, 1, none⟩) (by simp) (.slice A2 s.queue.length c2)).alloc (.cells #[.slice A1 s.pairs.length c1, .slice A2 s.queue.length c2] 41)) (by simp)
    have hB := HBW.out
    refine bodyPost_ret (v := .agg #[.slice A1 s.pairs.length c1, .slice A2 s.queue.length c2]) (by simp [results, Try.results50, go_sem, o0, o1, hl2]) rfl ⟨A1, c1, A2, c2, rfl, ⟨gP, gQ, HOW.out.apart⟩, (by repeat (first | exact Below.refl _ _ | assumption | refine Below.drew ?_ | refine below_drewN ?_ _ | refine Below.alloc ?_ (by first | omega | (simp; done) | (simp; omega)) _ | refine Below.setCell ?_ (by first | omega | (simp; done) | (simp; omega)) _))⟩
end Go.Proofs.Ythpegmeebhkhbaa
