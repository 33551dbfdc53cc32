/- The statement IdealGroups: the walk. -/
import Derived.Test.YthpegmeebhkhbaaIRises
import Derived.Test.YthpegmeebhkhbaaCopyS
namespace Go.Proofs.Ythpegmeebhkhbaa
open Go.RowKit

theorem keep8 {W W' : World} {n b q o1 o2 o3 o4 o5 : Nat} {u0 u1 v0 v1 v2 v3 v4 y0 : Value} (hb : Below W.heap.size W W') (hn : n < W.heap.size) (hbn : b < W.heap.size) (hq : q < W.heap.size)
    (h : W.cell? ⟨n, 0, none⟩ = some u0 ∧ W.cell? ⟨n, 1, none⟩ = some u1 ∧ W.cell? ⟨b, o1, none⟩ = some v0 ∧ W.cell? ⟨b, o2, none⟩ = some v1 ∧ W.cell? ⟨b, o3, none⟩ = some v2 ∧ W.cell? ⟨b, o4, none⟩ = some v3 ∧ W.cell? ⟨b, o5, none⟩ = some v4 ∧ W.cell? ⟨q, 4, none⟩ = some y0) :
    W'.cell? ⟨n, 0, none⟩ = some u0 ∧ W'.cell? ⟨n, 1, none⟩ = some u1 ∧ W'.cell? ⟨b, o1, none⟩ = some v0 ∧ W'.cell? ⟨b, o2, none⟩ = some v1 ∧ W'.cell? ⟨b, o3, none⟩ = some v2 ∧ W'.cell? ⟨b, o4, none⟩ = some v3 ∧ W'.cell? ⟨b, o5, none⟩ = some v4 ∧ W'.cell? ⟨q, 4, none⟩ = some y0 := by
  rw [hb.cell (p := ⟨n, 0, none⟩) hn, hb.cell (p := ⟨n, 1, none⟩) hn, hb.cell (p := ⟨b, o1, none⟩) hbn, hb.cell (p := ⟨b, o2, none⟩) hbn, hb.cell (p := ⟨b, o3, none⟩) hbn, hb.cell (p := ⟨b, o4, none⟩) hbn, hb.cell (p := ⟨b, o5, none⟩) hbn, hb.cell (p := ⟨q, 4, none⟩) hq]
  exact h
theorem apS_elem {c : Call0} {g : List Call0} (h : goodI c g = 0) (h7 : c.kind = 7) {x : Call0} (hx : x ∈ g) (gx : List Call0) (s : Shelf) : apS x gx s = doS x s := by
  unfold apS
  rw [if_pos (grp_good h h7 x hx gx), if_neg (grouped_not7 (grp_kind h h7 x hx))]
theorem apA_elem {c : Call0} {g : List Call0} (h : goodI c g = 0) (h7 : c.kind = 7) {x : Call0} (hx : x ∈ g) (gx : List Call0) (s : Shelf) : apA x gx s = doA x s (ans0 0) := by
  unfold apA
  rw [if_pos (grp_good h h7 x hx gx), if_neg (grouped_not7 (grp_kind h h7 x hx))]
set_option maxHeartbeats 4000000 in
set_option maxRecDepth 100000 in
theorem idealGroups0 (s : Shelf) (PA : Option Addr) (pc : Nat) (QA : Option Addr) (qc : Nat) (kind : Int) (key val till : ByteArray) (gA : Option Addr) (gc : Nat) (g : List Call0) (w : World) (h : ShIn w w.heap.size PA pc QA qc s)
    (hc : CallIn w w.heap.size ⟨kind, key, val, till, gA, g.length, gc⟩ g) (hel : ∀ x ∈ g, ∃ g', CallIn w w.heap.size x g') :
    Calls Try.prog 9 #[.agg #[.slice PA s.pairs.length pc, .slice QA s.queue.length qc], .agg #[.int .i64 kind, .string key, .string val, .string till, .slice gA g.length gc]] w fun e w' => e = .returned (.bool true) ∧ Below w.heap.size w w' := by
  have H := hid h
  have HC := hid hc
  have HEL := hid hel
  have hplen := h.plen
  have hpmax := h.pmax
  have hgcap := hc.cap
  have hgmax := hc.max
  clear h hc hel
  have bw1 : Below w.heap.size w ((w.alloc (.cells #[.slice PA s.pairs.length pc, .slice QA s.queue.length qc] 41)).alloc (.cells #[.int .i64 kind, .string key, .string val, .string till, .slice gA g.length gc] 50)) := (by repeat (first | exact Below.refl _ _ | assumption | refine Below.drew ?_ | refine below_drewN ?_ _ | refine Below.alloc ?_ (by first | omega | (simp; done) | (simp; omega)) _ | refine Below.setCell ?_ (by first | omega | (simp; done) | (simp; omega)) _))
  have HCW := hid (fun (W : World) (hb : Below w.heap.size w W) => show CallIn W W.heap.size ⟨kind, key, val, till, gA, g.length, gc⟩ g from (HC.out.below hb).more hb.size)
  go_enter Try.func9, Try.ntmps9
  go_wp2_with fail
  refine (large_any s PA pc QA qc ⟨kind, key, val, till, gA, g.length, gc⟩ g _ (in_below H.out bw1) (HCW.out _ bw1)).mono ?_
  rintro e w2 ⟨r, rfl, hb2, hsm⟩
  have X0 : w.heap.size < w2.heap.size ∧ w2.cell? ⟨w.heap.size, 0, none⟩ = some (.slice PA s.pairs.length pc) ∧ w2.cell? ⟨w.heap.size, 1, none⟩ = some (.slice QA s.queue.length qc) := carry2 hb2 ⟨by simp; omega, by simp [go_sem], by simp [go_sem]⟩
  have X1 : w.heap.size + 1 < w2.heap.size ∧ w2.cell? ⟨w.heap.size + 1, 0, none⟩ = some (.int .i64 kind) ∧ w2.cell? ⟨w.heap.size + 1, 1, none⟩ = some (.string key) ∧ w2.cell? ⟨w.heap.size + 1, 2, none⟩ = some (.string val) ∧ w2.cell? ⟨w.heap.size + 1, 3, none⟩ = some (.string till) ∧ w2.cell? ⟨w.heap.size + 1, 4, none⟩ = some (.slice gA g.length gc) := carry5 hb2 ⟨by simp, by simp [go_sem], by simp [go_sem], by simp [go_sem], by simp [go_sem], by simp [go_sem]⟩
  have bw2 : Below w.heap.size w w2 := bw1.trans (hb2.mono bw1.size)
  clear hb2 bw1
  cases r with
  | true =>
    clear hsm
    go_wp2_with fail
    (refine (awake15 _).mono ?_; rintro e wZ ⟨rfl, hbZ⟩; go_wp2; go_ret; exact ⟨rfl, bw2.trans (Below.trans (b := _) (by repeat (first | exact Below.refl _ _ | assumption | refine Below.drew ?_ | refine below_drewN ?_ _ | refine Below.alloc ?_ (by first | omega | (simp; done) | (simp; omega)) _ | refine Below.setCell ?_ (by first | omega | (simp; done) | (simp; omega)) _)) (hbZ.mono (by first | exact bw2.size | (simp; have := bw2.size; omega))))⟩)
  | false =>
  have HS := hid (hsm rfl)
  clear hsm
  by_cases h7 : kind = 7
  case neg =>
    go_wp2_with fail
    (refine (awake15 _).mono ?_; rintro e wZ ⟨rfl, hbZ⟩; go_wp2; go_ret; exact ⟨rfl, bw2.trans (Below.trans (b := _) (by repeat (first | exact Below.refl _ _ | assumption | refine Below.drew ?_ | refine below_drewN ?_ _ | refine Below.alloc ?_ (by first | omega | (simp; done) | (simp; omega)) _ | refine Below.setCell ?_ (by first | omega | (simp; done) | (simp; omega)) _)) (hbZ.mono (by first | exact bw2.size | (simp; have := bw2.size; omega))))⟩)
  subst h7
  go_wp2_with fail
  refine (good_any ⟨7, key, val, till, gA, g.length, gc⟩ g _ (HCW.out _ bw2)).mono ?_
  rintro e w3 ⟨rfl, hb3⟩
  have st3 : Below w2.heap.size w2 w3 := Below.trans (by repeat (first | exact Below.refl _ _ | assumption | refine Below.drew ?_ | refine below_drewN ?_ _ | refine Below.alloc ?_ (by first | omega | (simp; done) | (simp; omega)) _ | refine Below.setCell ?_ (by first | omega | (simp; done) | (simp; omega)) _)) (hb3.mono (show w2.heap.size ≤ _ from (by first | omega | (simp; done) | (simp; omega)))); have bw3 : Below w.heap.size w w3 := bw2.trans (st3.mono bw2.size); clear hb3
  replace X0 := carry2 st3 X0
  replace X1 := carry5 st3 X1
  by_cases hg : goodI ⟨7, key, val, till, gA, g.length, gc⟩ g = 0
  case neg =>
    rcases goodI_bit' ⟨7, key, val, till, gA, g.length, gc⟩ g with hg1 | hg1 | hg1
    · exact absurd hg1 hg
    all_goals
      rw [hg1]
      clear hg hg1
      go_wp2_with fail
      (refine (awake15 _).mono ?_; rintro e wZ ⟨rfl, hbZ⟩; go_wp2; go_ret; exact ⟨rfl, bw3.trans (Below.trans (b := _) (by repeat (first | exact Below.refl _ _ | assumption | refine Below.drew ?_ | refine below_drewN ?_ _ | refine Below.alloc ?_ (by first | omega | (simp; done) | (simp; omega)) _ | refine Below.setCell ?_ (by first | omega | (simp; done) | (simp; omega)) _)) (hbZ.mono (by first | exact bw3.size | (simp; have := bw3.size; omega))))⟩)
  rw [hg]
  have HG := hid hg
  clear hg
  go_wp2_with fail
  refine (apply_group s PA pc QA qc ⟨7, key, val, till, gA, g.length, gc⟩ g _ (in_below H.out bw3) (by have := HS.out.pairs; omega) (by have := HS.out.queue; omega) (HCW.out _ bw3) HG.out rfl).mono ?_
  rintro e w4 ⟨PX, px, QX, qx, RX, rx, HX, hx, rfl, hownX, -, hownH, hb4⟩
  have st4 : Below w3.heap.size w3 w4 := Below.trans (by repeat (first | exact Below.refl _ _ | assumption | refine Below.drew ?_ | refine below_drewN ?_ _ | refine Below.alloc ?_ (by first | omega | (simp; done) | (simp; omega)) _ | refine Below.setCell ?_ (by first | omega | (simp; done) | (simp; omega)) _)) (hb4.mono (show w3.heap.size ≤ _ from (by first | omega | (simp; done) | (simp; omega)))); have bw4 : Below w.heap.size w w4 := bw3.trans (st4.mono bw3.size); clear hb4
  replace X0 := carry2 st4 X0
  replace X1 := carry5 st4 X1
  have HXO := hid hownX
  have HHO := hid hownH
  have hhl : (hitsOf g s).length = g.length := hitsOf_len g s
  rw [hhl]
  have hhc := hownH.len
  have hhm := hownH.max
  simp only [hhl] at hhc
  have HHL := hid hhl
  clear hownX hownH hhl
  go_wp2_with fail
  refine (copyShelf_any s PA pc QA qc _ (in_below H.out (bw4.trans (show Below w.heap.size w4 _ from (by repeat (first | exact Below.refl _ _ | assumption | refine Below.drew ?_ | refine below_drewN ?_ _ | refine Below.alloc ?_ (by first | omega | (simp; done) | (simp; omega)) _ | refine Below.setCell ?_ (by first | omega | (simp; done) | (simp; omega)) _))))) (by have := HS.out.pairs; omega) (by have := HS.out.queue; omega)).mono ?_
  rintro e w5 ⟨PY, py, QY, qy, rfl, hownY, hb5⟩
  have X2 : w4.heap.size < w5.heap.size ∧ w5.cell? ⟨w4.heap.size, 0, none⟩ = some (.slice PX (doAll g s).pairs.length px) ∧ w5.cell? ⟨w4.heap.size, 1, none⟩ = some (.slice QX (doAll g s).queue.length qx) := carry2 hb5 ⟨by simp; omega, by simp [go_sem], by simp [go_sem]⟩
  have X3 : w4.heap.size + 1 < w5.heap.size ∧ w5.cell? ⟨w4.heap.size + 1, 4, none⟩ = some (.slice HX g.length hx) := carry1 hb5 ⟨by simp, by simp [go_sem]⟩
  have st5 : Below w4.heap.size w4 w5 := Below.trans (by repeat (first | exact Below.refl _ _ | assumption | refine Below.drew ?_ | refine below_drewN ?_ _ | refine Below.alloc ?_ (by first | omega | (simp; done) | (simp; omega)) _ | refine Below.setCell ?_ (by first | omega | (simp; done) | (simp; omega)) _)) (hb5.mono (show w4.heap.size ≤ _ from (by first | omega | (simp; done) | (simp; omega)))); have bw5 : Below w.heap.size w w5 := bw4.trans (st5.mono bw4.size); clear hb5
  replace X1 := carry5 st5 X1
  clear X0
  have hneq : ((g.length : Int) == (g.length : Int)) = true := by simp
  obtain ⟨W6, hW6⟩ : ∃ W6, W6 = w5.alloc (.cells #[.slice PY s.pairs.length py, .slice QY s.queue.length qy] 41) := ⟨_, rfl⟩
  have B6 : Below w5.heap.size w5 W6 := by rw [hW6]; exact (by repeat (first | exact Below.refl _ _ | assumption | refine Below.drew ?_ | refine below_drewN ?_ _ | refine Below.alloc ?_ (by first | omega | (simp; done) | (simp; omega)) _ | refine Below.setCell ?_ (by first | omega | (simp; done) | (simp; omega)) _))
  have HV0 := hid (show VarI W6 w5.heap.size PY py QY qy s from ⟨by rw [hW6, heap_alloc_if, if_pos rfl], in_below hownY.in_ B6, hownY.pairs.off (.inr (Nat.le_refl _)), hownY.queue.off (.inr (Nat.le_refl _))⟩)
  have HX1 := hid X1
  have HX2 := hid X2
  have HX3 := hid X3
  have HB6 := hid B6
  have HW6 := hid hW6
  have HB5 := hid bw5
  have HST5 := hid st5
  clear B6 hW6 hownY st3 st4 st5 bw2 bw3 bw4
  go_wp2_with fail
  go_loopw [8] (fun vi wr => ∃ (k : Nat) (P : Option Addr) (pc' : Nat) (Q : Option Addr) (qc' : Nat), k ≤ g.length ∧ vi = .int .i64 k ∧ Below w5.heap.size w5 wr ∧ VarI wr w5.heap.size P pc' Q qc' (doAll (g.take k) s)) (fun vi _ => g.length - (intOf vi).toNat)
  case atStart => exact ⟨0, PY, py, QY, qy, Nat.zero_le _, rfl, by rw [← HW6.out]; exact HB6.out, by rw [← HW6.out]; exact HV0.out⟩
  case round =>
    obtain ⟨k, P, pc', Q, qc', hkl, rfl, hb, hv⟩ := hrel
    obtain ⟨S, hS⟩ : ∃ S, S = doAll (g.take k) s := ⟨_, rfl⟩
    rw [← hS] at hv
    have HSk := hid hS
    have HV := hid hv
    have HBR := hid hb
    clear X1 X2 X3
    have X1 := carry5 hb HX1.out
    have X2 := carry2 hb HX2.out
    have X3 := carry1 hb HX3.out
    have bwr := HB5.out.trans (hb.mono HB5.out.size)
    have Z := hv.cells
    have f0 := frozen_of_row wr _ 0 _ _ hv.row
    have f1 := frozen_of_row wr _ 1 _ _ hv.row
    have hSL := doAll_len (g.take k) s
    rw [← hS, List.length_take] at hSL
    have hSL2 : S.pairs.length ≤ 90000 ∧ S.queue.length ≤ 90000 := by have := HS.out.pairs; have := HS.out.queue; have := HS.out.group; omega
    have HSL := hid hSL2
    clear hS hv hb hSL hSL2
    by_cases hlt : k < g.length
    · have hmem : g[k] ∈ g := List.getElem_mem hlt
      obtain ⟨G, hG⟩ := HEL.out _ hmem
      have HK := hid hG
      have HAS := hid (apS_elem HG.out rfl hmem G S)
      have HAA := hid (apA_elem HG.out rfl hmem G S)
      obtain ⟨b, off, hA, hB, k0, k1, k2, k3, k4⟩ := (HC.out.arr.below bwr).call0 hlt
      have hA' : gA = some ⟨b, off, none⟩ := hA
      have HA' := hid hA'
      have hlk : (k : Int) < (g.length : Int) := by omega
      have hbr : b < wr.heap.size := Nat.lt_of_lt_of_le hB bwr.size
      clear hG hmem hA hA'
      rw [HA'.out] at X1
      go_upto_region 10 with fail
      go_cut [9, 10] (fun v9 v10 wx => Applied wr wx (apS g[k] G S) (apA g[k] G S) v9 v10)
      case first =>
        have hall : wr.cell? ⟨w5.heap.size, 0, none⟩ = some (.slice P S.pairs.length pc') ∧ wr.cell? ⟨w5.heap.size, 1, none⟩ = some (.slice Q S.queue.length qc') ∧ wr.cell? ⟨b, off + k * 5, none⟩ = some (.int .i64 g[k].kind) ∧ wr.cell? ⟨b, off + k * 5 + 1, none⟩ = some (.string g[k].key) ∧ wr.cell? ⟨b, off + k * 5 + 2, none⟩ = some (.string g[k].val) ∧ wr.cell? ⟨b, off + k * 5 + 3, none⟩ = some (.string g[k].to) ∧ wr.cell? ⟨b, off + k * 5 + 4, none⟩ = some (.slice g[k].gA g[k].gn g[k].gc) ∧ wr.cell? ⟨w.heap.size + 1, 4, none⟩ = some (.slice (some ⟨b, off, none⟩) g.length gc) := ⟨Z.2.1, Z.2.2, k0, k1, k2, k3, k4, X1.2.2.2.2.2⟩
        have hszr := bwr.size
        go_region_held3 (fun w' => w'.cell? ⟨w5.heap.size, 0, none⟩ = some (.slice P S.pairs.length pc') ∧ w'.cell? ⟨w5.heap.size, 1, none⟩ = some (.slice Q S.queue.length qc') ∧ w'.cell? ⟨b, off + k * 5, none⟩ = some (.int .i64 g[k].kind) ∧ w'.cell? ⟨b, off + k * 5 + 1, none⟩ = some (.string g[k].key) ∧ w'.cell? ⟨b, off + k * 5 + 2, none⟩ = some (.string g[k].val) ∧ w'.cell? ⟨b, off + k * 5 + 3, none⟩ = some (.string g[k].to) ∧ w'.cell? ⟨b, off + k * 5 + 4, none⟩ = some (.slice g[k].gA g[k].gn g[k].gc) ∧ w'.cell? ⟨w.heap.size + 1, 4, none⟩ = some (.slice (some ⟨b, off, none⟩) g.length gc)) (first | exact keep8 (W := wr) (by repeat (first | with_reducible exact Below.refl _ _ | with_reducible assumption | with_reducible refine Below.drew ?_ | with_reducible refine below_drewN ?_ _ | with_reducible refine Below.alloc ?_ (by first | omega | (simp; done) | (simp; omega)) _ | with_reducible refine Below.setCell ?_ (by first | omega | (simp; done) | (simp; omega)) _)) Z.1 hbr X1.1 hall | go_keep) (first | (go_at_call 36; refine (apply_anyL S P pc' Q qc' g[k] G _ ?_ HSL.out.1 HSL.out.2 ?_).mono ?_; (refine (HV.out.keep ?_).sh; exact (by repeat (first | with_reducible exact Below.refl _ _ | with_reducible assumption | with_reducible refine Below.drew ?_ | with_reducible refine below_drewN ?_ _ | with_reducible refine Below.alloc ?_ (by first | omega | (simp; done) | (simp; omega)) _ | with_reducible refine Below.setCell ?_ (by first | omega | (simp; done) | (simp; omega)) _))); (refine (HK.out.below ?_).more ?_; exact (by repeat (first | with_reducible exact Below.refl _ _ | with_reducible assumption | with_reducible refine Below.drew ?_ | with_reducible refine below_drewN ?_ _ | with_reducible refine Below.alloc ?_ (by first | omega | (simp; done) | (simp; omega)) _ | with_reducible refine Below.setCell ?_ (by first | omega | (simp; done) | (simp; omega)) _)); (first | exact bwr.size | (simp; done) | (simp; omega))); rintro e wC ⟨loC, PX1, px1, QX1, qx1, RX1, rx1, HX1, hx1, hlo, rfl, hownX, hownR, hownH, hbC⟩; (try simp only [World.size_alloc, World.size_drew] at hlo); have HLO := hid hlo; clear hlo; have sC := hbC.size; obtain ⟨hcC, hfC⟩ := bcell hbC; (try simp only [World.size_alloc, World.size_drew] at sC); have sC2 : wr.heap.size ≤ wC.heap.size := (by omega); have stC : Below wr.heap.size wr wC := (by refine Below.trans ?_ (hbC.mono ?_); exact (by repeat (first | with_reducible exact Below.refl _ _ | with_reducible assumption | with_reducible refine Below.drew ?_ | with_reducible refine below_drewN ?_ _ | with_reducible refine Below.alloc ?_ (by first | omega | (simp; done) | (simp; omega)) _ | with_reducible refine Below.setCell ?_ (by first | omega | (simp; done) | (simp; omega)) _)); (first | exact Nat.le_refl _ | (simp; done) | (simp; omega))); (try have s1 : wr.heap.size < wC.heap.size := by omega); (try have s2 : wr.heap.size + 1 < wC.heap.size := by omega)))
        all_goals
          go_wp2_with fail
          go_meet
          have hlo := HLO.out
          refine ⟨_, _, PX1, px1, QX1, qx1, RX1, rx1, HX1, hx1, rfl, rfl, (by repeat (first | with_reducible exact Below.refl _ _ | with_reducible assumption | with_reducible refine Below.drew ?_ | with_reducible refine below_drewN ?_ _ | with_reducible refine Below.alloc ?_ (by first | omega | (simp; done) | (simp; omega)) _ | with_reducible refine Below.setCell ?_ (by first | omega | (simp; done) | (simp; omega)) _)), by omega, ⟨?_, ?_, ?_⟩, ⟨?_, ?_, ?_, ?_, ?_, ?_⟩, ⟨Own.lower (lo := loC) ?_ (by omega), Own.lower (lo := loC) ?_ (by omega), hownX.apart⟩, Own.lower (lo := loC) ?_ (by omega)⟩
          all_goals repeat (first | with_reducible exact hownX.pairs | with_reducible exact hownX.queue | with_reducible exact hownH | with_reducible refine Own.drew ?_ | with_reducible refine Own.alloc ?_ _ | with_reducible refine Own.setCell ?_ (by first | (show wr.heap.size < loC; omega) | (show wr.heap.size + 1 < loC; omega)) _)
          all_goals first | omega | (simp; done) | (simp; omega) | (have z5 := fun o => hcC wr.heap.size o (by simp only [World.size_drew, World.size_alloc]; omega); have z6 := fun o => hcC (wr.heap.size + 1) o (by simp only [World.size_drew, World.size_alloc]; omega); simp [go_sem, z5, z6]; done) | (have z5 := fun o => hcC wr.heap.size o (by simp only [World.size_drew, World.size_alloc]; omega); simp [go_sem, z5, s1]; done)
      case rest =>
        obtain ⟨p9, p10, PT, pt, QT, qt, RT, rt, HT, ht, rfl, rfl, st3, hp9, Y9, Y10, hownT, -⟩ := hcut
        rw [HAS.out] at Y9 hownT
        rw [HAA.out] at Y10
        have HTO := hid hownT
        have hkh : k < (hitsOf g s).length := by rw [HHL.out]; exact hlt
        have hfd : (hitsOf g s)[k] = (doA g[k] S (ans0 0)).found := by
          have := hitsOf_get hlt s
          rw [← HSk.out, List.getElem?_eq_getElem hkh] at this
          exact Option.some.inj this
        have b4c : Below w4.heap.size w4 wc := HST5.out.trans ((HBR.out.trans (st3.mono HBR.out.size)).mono HST5.out.size)
        obtain ⟨bh, oh, hHX, hBH, q0⟩ := ((HHO.out.arr bit_len).below b4c).bit1 hkh
        rw [hfd] at q0
        subst hHX
        have hbh : bh < wc.heap.size := Nat.lt_of_lt_of_le hBH b4c.size
        have W3 := carry1 st3 X3
        have rowc := (st3.block _ HV.out.lt).trans HV.out.row
        have f0 := frozen_of_row wc _ 0 _ _ rowc
        have f1 := frozen_of_row wc _ 1 _ _ rowc
        have g0 := cell_of_row wc _ 0 _ _ _ rowc
        have g1 := cell_of_row wc _ 1 _ _ _ rowc
        have hltc : w5.heap.size < wc.heap.size := Nat.lt_of_lt_of_le HV.out.lt st3.size
        have y1 := Y10.2.2.1
        have HROW := hid rowc
        have HSN := hid (show doS g[k] S = doAll (g.take (k + 1)) s by rw [doAll_succ hlt, HSk.out])
        obtain ⟨fd, hfdd⟩ : ∃ fd, fd = (doA g[k] S (ans0 0)).found := ⟨_, rfl⟩
        rw [← hfdd] at q0 y1
        have y90 := Y9.2.1
        have y91 := Y9.2.2
        have y9l := Y9.1
        have y10l := Y10.1
        have bwc := bwr.trans (st3.mono bwr.size)
        have HB5C := hid (HBR.out.trans (st3.mono HBR.out.size))
        clear hownT rowc Y10 Y9 hfdd hfd Z X1 X2 X3 k0 k1 k2 k3 k4
        go_wp2_with fail
        go_quiet (fail)
        go_wp2_with fail
        refine ⟨⟨k + 1, PT, pt, QT, qt, by omega, by go_num, ?_, ?_⟩, by simp [intOf]; omega⟩
        · exact ((below_drewN HB5C.out _).setCell (Nat.le_refl _) _).setCell (Nat.le_refl _) _
        · rw [← HSN.out]
          exact VarI.put (w1 := wc.drewN _) HROW.out (in_below HTO.out.in_ (below_drewN (Below.refl _ wc) _)) (HTO.out.pairs.off (.inl HV.out.lt)) (HTO.out.queue.off (.inl HV.out.lt)) rfl rfl
    · have hkk : g.take k = g := List.take_of_length_le (by omega)
      have HSG := hid (show S = doAll g s by rw [HSk.out, hkk])
      rw [← HSG.out] at X2
      clear hkk
      go_wp2_with fail
      refine (same_shelf S PX px QX qx P pc' Q qc' _ ?_ HV.out.sh).mono ?_
      · rw [HSG.out]
        exact (HXO.out.in_.below (HST5.out.trans (HBR.out.mono HST5.out.size))).more (HST5.out.trans (HBR.out.mono HST5.out.size)).size
      rintro e w7 ⟨rfl, hb7⟩
      have bw7 := bwr.trans (hb7.mono bwr.size)
      go_wp2_with fail
      (refine (awake15 _).mono ?_; rintro e wZ ⟨rfl, hbZ⟩; go_wp2; go_ret; exact ⟨rfl, bw7.trans (Below.trans (b := _) (by repeat (first | exact Below.refl _ _ | assumption | refine Below.drew ?_ | refine below_drewN ?_ _ | refine Below.alloc ?_ (by first | omega | (simp; done) | (simp; omega)) _ | refine Below.setCell ?_ (by first | omega | (simp; done) | (simp; omega)) _)) (hbZ.mono (by first | exact bw7.size | (simp; have := bw7.size; omega))))⟩)
theorem idealGroups_any (s : Shelf) (PA : Option Addr) (pc : Nat) (QA : Option Addr) (qc : Nat) (c : Call0) (g : List Call0) (w : World) (h : ShIn w w.heap.size PA pc QA qc s) (hc : CallIn w w.heap.size c g) (hel : ∀ x ∈ g, ∃ g', CallIn w w.heap.size x g') :
    Calls Try.prog 9 #[.agg #[.slice PA s.pairs.length pc, .slice QA s.queue.length qc], .agg #[.int .i64 c.kind, .string c.key, .string c.val, .string c.to, .slice c.gA c.gn c.gc]] w fun e w' => e = .returned (.bool true) ∧ Below w.heap.size w w' := by
  obtain ⟨kind, key, val, till, gA, gn, gc⟩ := c
  obtain rfl : gn = g.length := hc.len
  exact idealGroups0 s PA pc QA qc kind key val till gA gc g w h hc hel
end Go.Proofs.Ythpegmeebhkhbaa
