/- The reference's Replay: all effects up to an epoch. -/
import Derived.Test.YthpegmeebhkhbaaEff
import Derived.StillTailTactics
namespace Go.Proofs.Ythpegmeebhkhbaa
open Go.RowKit

theorem Arr.eff {w : World} {B : Nat} {A : Option Addr} {l : List Eff} (h : Arr Eff.enc 7 w B A l) {i : Nat} (hi : i < l.length) :
    ∃ b off, A = some ⟨b, off, none⟩ ∧ b < B ∧ w.cell? ⟨b, off + i * 7, none⟩ = some (.int .i64 l[i].kind) ∧ w.cell? ⟨b, off + i * 7 + 1, none⟩ = some (.string l[i].key) ∧ w.cell? ⟨b, off + i * 7 + 2, none⟩ = some (.string l[i].val) ∧
      w.cell? ⟨b, off + i * 7 + 3, none⟩ = some (.int .u64 l[i].id) ∧ w.cell? ⟨b, off + i * 7 + 4, none⟩ = some (.int .u64 l[i].ver) ∧ w.cell? ⟨b, off + i * 7 + 5, none⟩ = some (.int .u64 l[i].epoch) ∧ w.cell? ⟨b, off + i * 7 + 6, none⟩ = some (.int .i64 l[i].group) := by
  rcases h with h | ⟨b, off, hA, hB, hc⟩
  · subst h; simp at hi
  · exact ⟨b, off, hA, hB, hc i hi 0 _ rfl, hc i hi 1 _ rfl, hc i hi 2 _ rfl, hc i hi 3 _ rfl, hc i hi 4 _ rfl, hc i hi 5 _ rfl, hc i hi 6 _ rfl⟩
/-- a store in a variable at block p, what it holds behind it -/
structure VarS (W1 wr : World) (p : Nat) (PA : Option Addr) (pc : Nat) (QA : Option Addr) (qc : Nat) (s : Shelf) : Prop where
  below : Below p W1 wr
  row : wr.heap[p]? = some (.cells #[.slice PA s.pairs.length pc, .slice QA s.queue.length qc] 41 (0, 0))
  sh : ShIn wr wr.heap.size PA pc QA qc s
  low : LowL (p + 1) PA s.pairs ∧ LowL (p + 1) QA s.queue
theorem VarS.lt {W1 wr : World} {p : Nat} {PA : Option Addr} {pc : Nat} {QA : Option Addr} {qc : Nat} {s : Shelf} (h : VarS W1 wr p PA pc QA qc s) : p < wr.heap.size := lt_of_heap h.row
theorem VarS.cell0 {W1 wr : World} {p : Nat} {PA : Option Addr} {pc : Nat} {QA : Option Addr} {qc : Nat} {s : Shelf} (h : VarS W1 wr p PA pc QA qc s) : wr.cell? ⟨p, 0, none⟩ = some (.slice PA s.pairs.length pc) := by rw [cell_of_row wr p 0 _ _ _ h.row]; rfl
theorem VarS.cell1 {W1 wr : World} {p : Nat} {PA : Option Addr} {pc : Nat} {QA : Option Addr} {qc : Nat} {s : Shelf} (h : VarS W1 wr p PA pc QA qc s) : wr.cell? ⟨p, 1, none⟩ = some (.slice QA s.queue.length qc) := by rw [cell_of_row wr p 1 _ _ _ h.row]; rfl
theorem VarS.keep {W1 wr W : World} {p : Nat} {PA : Option Addr} {pc : Nat} {QA : Option Addr} {qc : Nat} {s : Shelf} (h : VarS W1 wr p PA pc QA qc s) (hb : Below wr.heap.size wr W) : VarS W1 W p PA pc QA qc s :=
  ⟨h.below.trans (hb.mono (by have := h.lt; omega)), (hb.block p h.lt).trans h.row, in_below h.sh hb, h.low⟩
/-- set anew by what a call gave -/
theorem VarS.put {W1 wr w1 : World} {p : Nat} {PA : Option Addr} {pc : Nat} {QA : Option Addr} {qc : Nat} {s : Shelf} (h : VarS W1 wr p PA pc QA qc s) (_hp : p ≤ W1.heap.size) (hb : Below wr.heap.size wr w1) {PX : Option Addr} {px : Nat} {QX : Option Addr} {qx : Nat} {s' : Shelf} (hin : ShIn w1 w1.heap.size PX px QX qx s') (hlow : LowL (p + 1) PX s'.pairs ∧ LowL (p + 1) QX s'.queue)
    {n m : Nat} (hn : n = s'.pairs.length) (hm : m = s'.queue.length) : VarS W1 ((w1.setCell ⟨p, 0, none⟩ (.slice PX n px)).setCell ⟨p, 1, none⟩ (.slice QX m qx)) p PX px QX qx s' := by
  subst hn
  subst hm
  have hrow : w1.heap[p]? = _ := (hb.block p h.lt).trans h.row
  have h1 := heap_setCell_same w1 p 0 _ _ (.slice PX s'.pairs.length px) hrow
  refine ⟨((h.below.trans (hb.mono (by have := h.lt; omega))).setCell (Nat.le_refl _) _).setCell (Nat.le_refl _) _, ?_, ?_, hlow⟩
  · rw [heap_setCell_same _ p 1 _ _ (.slice QX s'.queue.length qx) h1]
    rfl
  · have := (hin.lowCell (p := ⟨p, 0, none⟩) hlow (by show p < p + 1; omega) (.slice PX s'.pairs.length px)).lowCell (p := ⟨p, 1, none⟩) hlow (by show p < p + 1; omega) (.slice QX s'.queue.length qx)
    simpa using this
theorem VarS.new (w : World) : VarS w (w.alloc (.cells #[.slice none 0 0, .slice none 0 0] 41)) w.heap.size none 0 none 0 ⟨[], []⟩ :=
  ⟨(Below.refl _ _).alloc (Nat.le_refl _) _, by rw [heap_alloc_if, if_pos rfl]; rfl, ⟨Arr.nil, Nat.le_refl _, by omega, Arr.nil, Nat.le_refl _, by omega⟩, .inl rfl, .inl rfl⟩
set_option maxHeartbeats 4000000 in
set_option maxRecDepth 100000 in
theorem refreplay_any (l : List Eff) (A : Option Addr) (c : Nat) (upto : Int) (w : World) (h : Arr Eff.enc 7 w w.heap.size A l) (hc : l.length ≤ c) (hm : c ≤ 9223372036854775807) (hl : l.length ≤ 800000) :
    Calls Try.prog 52 #[.slice A l.length c, .int .u64 upto] w (GivesIn (replay l upto) w) := by
  have H := hid h
  have HL := hid hl
  clear h hl
  have HST := hid (VarS.new (w.alloc (.cells #[.slice none 0 0, .slice none 0 0] 41)))
  go_enter Try.func52, Try.ntmps52
  go_wp2_with fail
  go_loopw [6] (fun vi wr => ∃ (k : Nat) (PA : Option Addr) (pc : Nat) (QA : Option Addr) (qc : Nat), k ≤ l.length ∧ vi = .int .i64 k ∧ VarS (w.alloc (.cells #[.slice none 0 0, .slice none 0 0] 41)) wr (w.heap.size + 1) PA pc QA qc (replay (l.take k) upto)) (fun vi _ => l.length - (intOf vi).toNat)
  case atStart => exact ⟨0, none, 0, none, 0, Nat.zero_le _, rfl, by simpa [replay] using HST.out⟩
  case round =>
    obtain ⟨k, PA, pc, QA, qc, hkl, rfl, hv⟩ := hrel
    obtain ⟨s, hs⟩ : ∃ s, s = replay (l.take k) upto := ⟨_, rfl⟩
    rw [← hs] at hv
    have HS := hid hs
    have HV := hid hv
    have HSL := hid (show s.pairs.length ≤ l.length ∧ s.queue.length ≤ l.length by rw [hs]; exact replay_take l k upto)
    have hlt0 := hv.lt
    have c0 := hv.cell0
    have c1 := hv.cell1
    have hbw : Below w.heap.size w wr := Below.trans (b := w.alloc (.cells #[.slice none 0 0, .slice none 0 0] 41)) (by repeat (first | exact Below.refl _ _ | assumption | refine Below.drew ?_ | refine below_drewN ?_ _ | refine Below.alloc ?_ (by first | omega | (simp; done) | (simp; omega)) _ | refine Below.setCell ?_ (by first | omega | (simp; done) | (simp; omega)) _)) (hv.below.mono (by first | omega | (simp; done) | (simp; omega)))
    have HBW := hid hbw
    have hrow : wr.heap[w.heap.size]? = some (.cells #[.slice none 0 0, .slice none 0 0] 41 (0, 0)) := (hv.below.block w.heap.size (by omega)).trans (by rw [heap_alloc_if, if_pos rfl])
    have o0 := cell_of_row wr _ 0 _ _ _ hrow
    have o1 := cell_of_row wr _ 1 _ _ _ hrow
    have g0 := frozen_of_row wr _ 0 _ _ hrow
    have g1 := frozen_of_row wr _ 1 _ _ hrow
    have f0 := frozen_of_row wr _ 0 _ _ hv.row
    have f1 := frozen_of_row wr _ 1 _ _ hv.row
    have hl2 : w.heap.size < wr.heap.size := by omega
    clear hs hv hbw hrow
    by_cases hlt : k < l.length
    · obtain ⟨b, off, rfl, hB, k0, k1, k2, k3, k4, k5, k6⟩ := (H.out.below HBW.out).eff hlt
      have hlk : (k : Int) < (l.length : Int) := by omega
      by_cases hup : l[k].epoch ≤ upto
      · have HN := hid (show doE l[k] s = replay (l.take (k + 1)) upto by rw [replay_succ hlt, if_pos hup, HS.out])
        go_wp2_with fail
        go_still_tail 5, (by kernel_rfl)
        go_wp2_with fail
        have hV2 := HV.out.keep (W := wr.drew) (by repeat (first | exact Below.refl _ _ | assumption | refine Below.drew ?_ | refine below_drewN ?_ _ | refine Below.alloc ?_ (by first | omega | (simp; done) | (simp; omega)) _ | refine Below.setCell ?_ (by first | omega | (simp; done) | (simp; omega)) _))
        refine (refdo_any s PA pc QA qc l[k] _ hV2.sh (by have := HSL.out; have := HL.out; omega) (by have := HSL.out; have := HL.out; omega)).mono ?_
        rintro e w1 ⟨PX, px, QX, qx, rfl, hin, hlow, hb1⟩
        have hrow1 := (hb1.block _ hV2.lt).trans hV2.row
        have d0 := cell_of_row w1 _ 0 _ _ _ hrow1
        have d1 := cell_of_row w1 _ 1 _ _ _ hrow1
        have e0 := frozen_of_row w1 _ 0 _ _ hrow1
        have e1 := frozen_of_row w1 _ 1 _ _ hrow1
        have HV3 := hid (hV2.put (by simp) hb1 hin (hlow _ (by show w.heap.size + 1 + 1 ≤ wr.heap.size; omega) hV2.low) rfl rfl)
        rw [HN.out] at HV3
        clear hrow1 hV2 hin hlow hb1
        go_wp2_with fail
        refine ⟨⟨k + 1, PX, px, QX, qx, by omega, by go_num, ?_⟩, by simp [intOf]; omega⟩
        simpa [HN.out] using HV3.out
      · have HN := hid (show s = replay (l.take (k + 1)) upto by rw [replay_succ hlt, if_neg hup, HS.out])
        go_wp2_with fail
        refine ⟨⟨k + 1, PA, pc, QA, qc, by omega, by go_num, by rw [← HN.out]; exact HV.out⟩, by simp [intOf]; omega⟩
    · have hkk : l.take k = l := List.take_of_length_le (by omega)
      have HK := hid (show s = replay l upto by rw [HS.out, hkk])
      clear hkk
      go_wp2
      have hB := HBW.out
      rw [← HK.out]
      refine bodyPost_ret (v := .agg #[.slice PA s.pairs.length pc, .slice QA s.queue.length qc]) (by simp [results, Try.results52, go_sem, o0, o1]) rfl ⟨PA, pc, QA, qc, rfl, ?_, ⟨HV.out.low.1.mono (by omega), HV.out.low.2.mono (by omega)⟩, (by repeat (first | exact Below.refl _ _ | assumption | refine Below.drew ?_ | refine below_drewN ?_ _ | refine Below.alloc ?_ (by first | omega | (simp; done) | (simp; omega)) _ | refine Below.setCell ?_ (by first | omega | (simp; done) | (simp; omega)) _))⟩
      simpa using (HV.out.sh.lowCell (p := ⟨w.heap.size, 0, none⟩) HV.out.low (by show w.heap.size < w.heap.size + 1 + 1; omega) (.slice PA s.pairs.length pc)).lowCell (p := ⟨w.heap.size, 1, none⟩) HV.out.low (by show w.heap.size < w.heap.size + 1 + 1; omega) (.slice QA s.queue.length qc)
end Go.Proofs.Ythpegmeebhkhbaa
