/- ideal.Replay: all effects up to an epoch, by the program. -/
import Derived.Test.YthpegmeebhkhbaaDoI
namespace Go.Proofs.Ythpegmeebhkhbaa
open Go.RowKit

theorem ShOwn.in_ {w : World} {lo : Nat} {PA : Option Addr} {pc : Nat} {QA : Option Addr} {qc : Nat} {s : Shelf} (h : ShOwn w lo PA pc QA qc s) : ShIn w w.heap.size PA pc QA qc s :=
  ⟨h.pairs.arr Pair.enc_len, h.pairs.len, h.pairs.max, h.queue.arr txt_len, h.queue.len, h.queue.max⟩
theorem ShOwn.below {w w' : World} {lo : Nat} {PA : Option Addr} {pc : Nat} {QA : Option Addr} {qc : Nat} {s : Shelf} (h : ShOwn w lo PA pc QA qc s) (hb : Below w.heap.size w w') : ShOwn w' lo PA pc QA qc s := ⟨h.pairs.below hb, h.queue.below hb, h.apart⟩
theorem ShOwn.lower {w : World} {lo lo' : Nat} {PA : Option Addr} {pc : Nat} {QA : Option Addr} {qc : Nat} {s : Shelf} (h : ShOwn w lo PA pc QA qc s) (hl : lo' ≤ lo) : ShOwn w lo' PA pc QA qc s := ⟨h.pairs.lower hl, h.queue.lower hl, h.apart⟩
theorem ShOwn.setCell {w : World} {lo : Nat} {PA : Option Addr} {pc : Nat} {QA : Option Addr} {qc : Nat} {s : Shelf} (h : ShOwn w lo PA pc QA qc s) {p : Addr} (hp : p.block < lo) (u : Value) : ShOwn (w.setCell p u) lo PA pc QA qc s := ⟨h.pairs.setCell hp u, h.queue.setCell hp u, h.apart⟩
/-- a store of the call's own in a variable at block p -/
structure VarO (W1 wr : World) (p : Nat) (PA : Option Addr) (pc : Nat) (QA : Option Addr) (qc : Nat) (s : Shelf) : Prop where
  below : Below p W1 wr
  row : wr.heap[p]? = some (.cells #[.slice PA s.pairs.length pc, .slice QA s.queue.length qc] 41 (0, 0))
  own : ShOwn wr (p + 1) PA pc QA qc s
theorem VarO.lt {W1 wr : World} {p : Nat} {PA : Option Addr} {pc : Nat} {QA : Option Addr} {qc : Nat} {s : Shelf} (h : VarO W1 wr p PA pc QA qc s) : p < wr.heap.size := lt_of_heap h.row
theorem VarO.cell0 {W1 wr : World} {p : Nat} {PA : Option Addr} {pc : Nat} {QA : Option Addr} {qc : Nat} {s : Shelf} (h : VarO W1 wr p PA pc QA qc s) : wr.cell? ⟨p, 0, none⟩ = some (.slice PA s.pairs.length pc) := by rw [cell_of_row wr p 0 _ _ _ h.row]; rfl
theorem VarO.cell1 {W1 wr : World} {p : Nat} {PA : Option Addr} {pc : Nat} {QA : Option Addr} {qc : Nat} {s : Shelf} (h : VarO W1 wr p PA pc QA qc s) : wr.cell? ⟨p, 1, none⟩ = some (.slice QA s.queue.length qc) := by rw [cell_of_row wr p 1 _ _ _ h.row]; rfl
theorem VarO.keep {W1 wr W : World} {p : Nat} {PA : Option Addr} {pc : Nat} {QA : Option Addr} {qc : Nat} {s : Shelf} (h : VarO W1 wr p PA pc QA qc s) (hb : Below wr.heap.size wr W) : VarO W1 W p PA pc QA qc s :=
  ⟨h.below.trans (hb.mono (by have := h.lt; omega)), (hb.block p h.lt).trans h.row, h.own.below hb⟩
theorem VarO.put {W1 wr w1 : World} {p : Nat} {PA : Option Addr} {pc : Nat} {QA : Option Addr} {qc : Nat} {s : Shelf} (h : VarO W1 wr p PA pc QA qc s) (_hp : p ≤ W1.heap.size) (hb : Below wr.heap.size wr w1) {PX : Option Addr} {px : Nat} {QX : Option Addr} {qx : Nat} {s' : Shelf} (hown : ShOwn w1 (p + 1) PX px QX qx s')
    {n m : Nat} (hn : n = s'.pairs.length) (hm : m = s'.queue.length) : VarO W1 ((w1.setCell ⟨p, 0, none⟩ (.slice PX n px)).setCell ⟨p, 1, none⟩ (.slice QX m qx)) p PX px QX qx s' := by
  subst hn
  subst hm
  have hrow : w1.heap[p]? = _ := (hb.block p h.lt).trans h.row
  have h1 := heap_setCell_same w1 p 0 _ _ (.slice PX s'.pairs.length px) hrow
  refine ⟨((h.below.trans (hb.mono (by have := h.lt; omega))).setCell (Nat.le_refl _) _).setCell (Nat.le_refl _) _, ?_, ?_⟩
  · rw [heap_setCell_same _ p 1 _ _ (.slice QX s'.queue.length qx) h1]
    rfl
  · exact (hown.setCell (p := ⟨p, 0, none⟩) (by show p < p + 1; omega) _).setCell (p := ⟨p, 1, none⟩) (by show p < p + 1; omega) _
theorem VarO.new (w : World) : VarO w (w.alloc (.cells #[.slice none 0 0, .slice none 0 0] 41)) w.heap.size none 0 none 0 ⟨[], []⟩ :=
  ⟨(Below.refl _ _).alloc (Nat.le_refl _) _, by rw [heap_alloc_if, if_pos rfl]; rfl, Own.none_, Own.none_, by intro _ _ _ _ h; cases h⟩
set_option maxHeartbeats 4000000 in
set_option maxRecDepth 100000 in
theorem replay_any (l : List Eff) (A : Option Addr) (c : Nat) (upto : Int) (w : World) (h : Arr Eff.enc 7 w w.heap.size A l) (hc : l.length ≤ c) (hm : c ≤ 9223372036854775807) (hl : l.length ≤ 80000) :
    Calls Try.prog 25 #[.slice A l.length c, .int .u64 upto] w (GivesSh (replay l upto) w) := by
  have H := hid h
  have HL := hid hl
  clear h hl
  have HST := hid (VarO.new (w.alloc (.cells #[.slice none 0 0, .slice none 0 0] 41)))
  go_enter Try.func25, Try.ntmps25
  go_wp2_with fail
  go_loopw [10] (fun vi wr => ∃ (k : Nat) (PA : Option Addr) (pc : Nat) (QA : Option Addr) (qc : Nat), k ≤ l.length ∧ vi = .int .i64 k ∧ VarO (w.alloc (.cells #[.slice none 0 0, .slice none 0 0] 41)) wr (w.heap.size + 1) PA pc QA qc (replay (l.take k) upto)) (fun vi _ => l.length - (intOf vi).toNat)
  case atStart => exact ⟨0, none, 0, none, 0, Nat.zero_le _, rfl, by simpa [replay] using HST.out⟩
  case round =>
    obtain ⟨k, PA, pc, QA, qc, hkl, rfl, hv⟩ := hrel
    obtain ⟨s, hs⟩ : ∃ s, s = replay (l.take k) upto := ⟨_, rfl⟩
    rw [← hs] at hv
    have HS := hid hs
    have HV := hid hv
    have HSL := hid (show s.pairs.length ≤ l.length ∧ s.queue.length ≤ l.length by rw [hs]; exact replay_take l k upto)
    have hlt0 := hv.lt
    have c0 := hv.cell0
    have c1 := hv.cell1
    have hbw : Below w.heap.size w wr := Below.trans (b := w.alloc (.cells #[.slice none 0 0, .slice none 0 0] 41)) (by repeat (first | exact Below.refl _ _ | assumption | refine Below.drew ?_ | refine below_drewN ?_ _ | refine Below.alloc ?_ (by first | omega | (simp; done) | (simp; omega)) _ | refine Below.setCell ?_ (by first | omega | (simp; done) | (simp; omega)) _)) (hv.below.mono (by first | omega | (simp; done) | (simp; omega)))
    have HBW := hid hbw
    have hrow : wr.heap[w.heap.size]? = some (.cells #[.slice none 0 0, .slice none 0 0] 41 (0, 0)) := (hv.below.block w.heap.size (by omega)).trans (by rw [heap_alloc_if, if_pos rfl])
    have o0 := cell_of_row wr _ 0 _ _ _ hrow
    have o1 := cell_of_row wr _ 1 _ _ _ hrow
    have g0 := frozen_of_row wr _ 0 _ _ hrow
    have g1 := frozen_of_row wr _ 1 _ _ hrow
    have f0 := frozen_of_row wr _ 0 _ _ hv.row
    have f1 := frozen_of_row wr _ 1 _ _ hv.row
    have hl2 : w.heap.size < wr.heap.size := by omega
    clear hs hv hbw hrow
    by_cases hlt : k < l.length
    · obtain ⟨b, off, rfl, hB, k0, k1, k2, k3, k4, k5, k6⟩ := (H.out.below HBW.out).eff hlt
      have hlk : (k : Int) < (l.length : Int) := by omega
      by_cases hup : l[k].epoch ≤ upto
      · have HN := hid (show doE l[k] s = replay (l.take (k + 1)) upto by rw [replay_succ hlt, if_pos hup, HS.out])
        go_wp2_with fail
        have hV2 := HV.out.keep (W := wr.alloc (.cells #[.int .i64 l[k].kind, .string l[k].key, .string l[k].val, .int .u64 l[k].id, .int .u64 l[k].ver, .int .u64 l[k].epoch, .int .i64 l[k].group] 86)) (by repeat (first | exact Below.refl _ _ | assumption | refine Below.drew ?_ | refine below_drewN ?_ _ | refine Below.alloc ?_ (by first | omega | (simp; done) | (simp; omega)) _ | refine Below.setCell ?_ (by first | omega | (simp; done) | (simp; omega)) _))
        refine (idealdo_any s PA pc QA qc l[k] _ hV2.own.in_ (by have := HSL.out; have := HL.out; omega) (by have := HSL.out; have := HL.out; omega)).mono ?_
        rintro e w1 ⟨PX, px, QX, qx, rfl, hown, hb1⟩
        have hrow1 := (hb1.block _ hV2.lt).trans hV2.row
        have d0 := cell_of_row w1 _ 0 _ _ _ hrow1
        have d1 := cell_of_row w1 _ 1 _ _ _ hrow1
        have e0 := frozen_of_row w1 _ 0 _ _ hrow1
        have e1 := frozen_of_row w1 _ 1 _ _ hrow1
        have HV3 := hid (hV2.put (by simp) hb1 (hown.lower (by simp; omega)) rfl rfl)
        rw [HN.out] at HV3
        clear hrow1 hV2 hown hb1
        go_wp2_with fail
        refine ⟨⟨k + 1, PX, px, QX, qx, by omega, by go_num, ?_⟩, by simp [intOf]; omega⟩
        simpa [HN.out] using HV3.out
      · have HN := hid (show s = replay (l.take (k + 1)) upto by rw [replay_succ hlt, if_neg hup, HS.out])
        go_wp2_with fail
        refine ⟨⟨k + 1, PA, pc, QA, qc, by omega, by go_num, by rw [← HN.out]; exact HV.out.keep (by repeat (first | exact Below.refl _ _ | assumption | refine Below.drew ?_ | refine below_drewN ?_ _ | refine Below.alloc ?_ (by first | omega | (simp; done) | (simp; omega)) _ | refine Below.setCell ?_ (by first | omega | (simp; done) | (simp; omega)) _))⟩, by simp [intOf]; omega⟩
    · have hkk : l.take k = l := List.take_of_length_le (by omega)
      have HK := hid (show s = replay l upto by rw [HS.out, hkk])
      clear hkk
      go_wp2
      have hB := HBW.out
      rw [← HK.out]
      refine bodyPost_ret (v := .agg #[.slice PA s.pairs.length pc, .slice QA s.queue.length qc]) (by simp [results, Try.results25, go_sem, o0, o1]) rfl ⟨PA, pc, QA, qc, rfl, ?_, (by repeat (first | exact Below.refl _ _ | assumption | refine Below.drew ?_ | refine below_drewN ?_ _ | refine Below.alloc ?_ (by first | omega | (simp; done) | (simp; omega)) _ | refine Below.setCell ?_ (by first | omega | (simp; done) | (simp; omega)) _))⟩
      exact ((HV.out.own.setCell (p := ⟨w.heap.size, 0, none⟩) (by show w.heap.size < w.heap.size + 1 + 1; omega) _).setCell (p := ⟨w.heap.size, 1, none⟩) (by show w.heap.size < w.heap.size + 1 + 1; omega) _).lower (by omega)
end Go.Proofs.Ythpegmeebhkhbaa
