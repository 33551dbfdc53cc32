/- The statement IdealRises: the walk. -/
import Derived.Test.YthpegmeebhkhbaaApAny
import Derived.Test.YthpegmeebhkhbaaIWaits
import Derived.StillTailTactics
import Derived.Deep.DeepCutAuto
namespace Go.Proofs.Ythpegmeebhkhbaa
open Go.RowKit

/-- a list of calls in memory, each with its own group, as far as it is gone through -/
structure CallsIn (w : World) (B : Nat) (A : Option Addr) (c : Nat) (l : List Call0) (gs : List (List Call0)) : Prop where
  arr : Arr Call0.enc 5 w B A l
  cap : l.length ≤ c
  max : c ≤ 9223372036854775807
  len : gs.length = l.length
  each : ∀ i (h : i < l.length) (h' : i < gs.length), CallIn w B l[i] gs[i]
theorem CallsIn.below {w w' : World} {B : Nat} {A : Option Addr} {c : Nat} {l : List Call0} {gs : List (List Call0)} (h : CallsIn w B A c l gs) (hb : Below B w w') : CallsIn w' B A c l gs :=
  ⟨h.arr.below hb, h.cap, h.max, h.len, fun i hi hi' => (h.each i hi hi').below hb⟩
theorem bcell {W w1 : World} (hb : Below W.heap.size W w1) : (∀ b o, b < W.heap.size → w1.cell? ⟨b, o, none⟩ = W.cell? ⟨b, o, none⟩) ∧ (∀ b o, b < W.heap.size → w1.frozen? ⟨b, o, none⟩ = W.frozen? ⟨b, o, none⟩) :=
  ⟨fun b o h => hb.cell (p := ⟨b, o, none⟩) h, fun b o h => hb.frozen (p := ⟨b, o, none⟩) h⟩
theorem keep7 {W W' : World} {n b o1 o2 o3 o4 o5 : Nat} {u0 u1 v0 v1 v2 v3 v4 : Value} (hb : Below W.heap.size W W') (hn : n < W.heap.size) (hbn : b < W.heap.size)
    (h : W.cell? ⟨n, 0, none⟩ = some u0 ∧ W.cell? ⟨n, 1, none⟩ = some u1 ∧ W.cell? ⟨b, o1, none⟩ = some v0 ∧ W.cell? ⟨b, o2, none⟩ = some v1 ∧ W.cell? ⟨b, o3, none⟩ = some v2 ∧ W.cell? ⟨b, o4, none⟩ = some v3 ∧ W.cell? ⟨b, o5, none⟩ = some v4) :
    W'.cell? ⟨n, 0, none⟩ = some u0 ∧ W'.cell? ⟨n, 1, none⟩ = some u1 ∧ W'.cell? ⟨b, o1, none⟩ = some v0 ∧ W'.cell? ⟨b, o2, none⟩ = some v1 ∧ W'.cell? ⟨b, o3, none⟩ = some v2 ∧ W'.cell? ⟨b, o4, none⟩ = some v3 ∧ W'.cell? ⟨b, o5, none⟩ = some v4 := by
  rw [hb.cell (p := ⟨n, 0, none⟩) hn, hb.cell (p := ⟨n, 1, none⟩) hn, hb.cell (p := ⟨b, o1, none⟩) hbn, hb.cell (p := ⟨b, o2, none⟩) hbn, hb.cell (p := ⟨b, o3, none⟩) hbn, hb.cell (p := ⟨b, o4, none⟩) hbn, hb.cell (p := ⟨b, o5, none⟩) hbn]
  exact h
theorem keep10 {W W' : World} {n b p q o1 o2 o3 o4 o5 : Nat} {u0 u1 v0 v1 v2 v3 v4 x0 x1 y0 : Value} (hb : Below W.heap.size W W') (hn : n < W.heap.size) (hbn : b < W.heap.size) (hp : p < W.heap.size) (hq : q < W.heap.size)
    (h : W.cell? ⟨n, 0, none⟩ = some u0 ∧ W.cell? ⟨n, 1, none⟩ = some u1 ∧ W.cell? ⟨b, o1, none⟩ = some v0 ∧ W.cell? ⟨b, o2, none⟩ = some v1 ∧ W.cell? ⟨b, o3, none⟩ = some v2 ∧ W.cell? ⟨b, o4, none⟩ = some v3 ∧ W.cell? ⟨b, o5, none⟩ = some v4 ∧ W.cell? ⟨p, 0, none⟩ = some x0 ∧ W.cell? ⟨p, 1, none⟩ = some x1 ∧ W.cell? ⟨q, 0, none⟩ = some y0) :
    W'.cell? ⟨n, 0, none⟩ = some u0 ∧ W'.cell? ⟨n, 1, none⟩ = some u1 ∧ W'.cell? ⟨b, o1, none⟩ = some v0 ∧ W'.cell? ⟨b, o2, none⟩ = some v1 ∧ W'.cell? ⟨b, o3, none⟩ = some v2 ∧ W'.cell? ⟨b, o4, none⟩ = some v3 ∧ W'.cell? ⟨b, o5, none⟩ = some v4 ∧ W'.cell? ⟨p, 0, none⟩ = some x0 ∧ W'.cell? ⟨p, 1, none⟩ = some x1 ∧ W'.cell? ⟨q, 0, none⟩ = some y0 := by
  rw [hb.cell (p := ⟨n, 0, none⟩) hn, hb.cell (p := ⟨n, 1, none⟩) hn, hb.cell (p := ⟨b, o1, none⟩) hbn, hb.cell (p := ⟨b, o2, none⟩) hbn, hb.cell (p := ⟨b, o3, none⟩) hbn, hb.cell (p := ⟨b, o4, none⟩) hbn, hb.cell (p := ⟨b, o5, none⟩) hbn,
    hb.cell (p := ⟨p, 0, none⟩) hp, hb.cell (p := ⟨p, 1, none⟩) hp, hb.cell (p := ⟨q, 0, none⟩) hq]
  exact h
/-- the same, the bound of what is new under a name -/
def GivesApL (s : Shelf) (a : Ans) (w : World) (e : Ending) (w' : World) : Prop :=
  ∃ lo PA pc QA qc RA rc HA hc, lo = w.heap.size ∧ e = .returned (.tuple #[.agg #[.slice PA s.pairs.length pc, .slice QA s.queue.length qc], .agg #[.int .i64 a.code, .bool a.found, .string a.value, .slice RA a.pairs.length rc, .slice HA a.hits.length hc, .int .u64 0]]) ∧
    ShOwn w' lo PA pc QA qc s ∧ Own Pair.enc 81 2 w' lo RA rc a.pairs ∧ Own bit 4 1 w' lo HA hc a.hits ∧ Below w.heap.size w w'
theorem apply_anyL (s : Shelf) (PA : Option Addr) (pc : Nat) (QA : Option Addr) (qc : Nat) (c : Call0) (g : List Call0) (w : World) (h : ShIn w w.heap.size PA pc QA qc s) (hp : s.pairs.length ≤ 90000) (hq : s.queue.length ≤ 90000) (hc : CallIn w w.heap.size c g) :
    Calls Try.prog 36 #[.agg #[.slice PA s.pairs.length pc, .slice QA s.queue.length qc], .agg #[.int .i64 c.kind, .string c.key, .string c.val, .string c.to, .slice c.gA c.gn c.gc]] w (GivesApL (apS c g s) (apA c g s) w) :=
  (apply_any s PA pc QA qc c g w h hp hq hc).mono fun _ _ ⟨PA, pc, QA, qc, RA, rc, HA, hc, h1, h2, h3, h4, h5⟩ => ⟨_, PA, pc, QA, qc, RA, rc, HA, hc, rfl, h1, h2, h3, h4, h5⟩
/-- a store and an answer, each in a variable, as a call of Apply leaves them -/
def Applied (w wx : World) (s : Shelf) (a : Ans) (v5 v6 : Value) : Prop :=
  ∃ px pa PX px' QX qx' RA rc HA hc, v5 = .pointer (some ⟨px, 0, none⟩) ∧ v6 = .pointer (some ⟨pa, 0, none⟩) ∧ Below w.heap.size w wx ∧ w.heap.size ≤ px ∧ (px < wx.heap.size ∧ wx.cell? ⟨px, 0, none⟩ = some (.slice PX s.pairs.length px') ∧ wx.cell? ⟨px, 1, none⟩ = some (.slice QX s.queue.length qx')) ∧
    (pa < wx.heap.size ∧ wx.cell? ⟨pa, 0, none⟩ = some (.int .i64 a.code) ∧ wx.cell? ⟨pa, 1, none⟩ = some (.bool a.found) ∧ wx.cell? ⟨pa, 2, none⟩ = some (.string a.value) ∧ wx.cell? ⟨pa, 3, none⟩ = some (.slice RA a.pairs.length rc) ∧ wx.cell? ⟨pa, 4, none⟩ = some (.slice HA a.hits.length hc)) ∧
    ShOwn wx w.heap.size PX px' QX qx' s ∧ Own bit 4 1 wx w.heap.size HA hc a.hits
set_option maxHeartbeats 4000000 in
set_option maxRecDepth 100000 in
theorem idealRises_any (l : List Call0) (gs : List (List Call0)) (A : Option Addr) (c : Nat) (w : World) (h : CallsIn w w.heap.size A c l gs) :
    Calls Try.prog 13 #[.slice A l.length c] w fun e w' => e = .returned (.bool true) ∧ Below w.heap.size w w' := by
  have H := hid h
  have hcap := h.cap
  have hmax := h.max
  clear h
  have bw0 := Below.refl w.heap.size w
  by_cases hl : l.length ≤ 30
  case neg =>
    have hl' : (30 : Int) < (l.length : Int) := by omega
    go_enter Try.func13, Try.ntmps13
    go_wp2_with fail
    (refine (awake15 _).mono ?_; rintro e wZ ⟨rfl, hbZ⟩; go_wp2; go_ret; exact ⟨rfl, bw0.trans (Below.trans (b := _) (by repeat (first | exact Below.refl _ _ | assumption | refine Below.drew ?_ | refine below_drewN ?_ _ | refine Below.alloc ?_ (by first | omega | (simp; done) | (simp; omega)) _ | refine Below.setCell ?_ (by first | omega | (simp; done) | (simp; omega)) _)) (hbZ.mono (by first | exact bw0.size | (simp; have := bw0.size; omega))))⟩)
  have HST := hid (show VarI (w.alloc (.cells #[.slice none 0 0, .slice none 0 0] 41)) w.heap.size none 0 none 0 ⟨[], []⟩ from
    ⟨by rw [heap_alloc_if, if_pos rfl]; rfl, ⟨Arr.nil, Nat.le_refl _, by omega, Arr.nil, Nat.le_refl _, by omega⟩, .inl rfl, .inl rfl⟩)
  go_enter Try.func13, Try.ntmps13
  go_wp2_with fail
  go_loopw [4] (fun vi wr => ∃ (k : Nat) (PA : Option Addr) (pc : Nat) (QA : Option Addr) (qc : Nat) (S : Shelf), k ≤ l.length ∧ vi = .int .i64 k ∧ Below w.heap.size w wr ∧ VarI wr w.heap.size PA pc QA qc S ∧ mayB S.pairs = true) (fun vi _ => l.length - (intOf vi).toNat)
  case atStart => exact ⟨0, none, 0, none, 0, ⟨[], []⟩, Nat.zero_le _, rfl, (Below.refl _ w).alloc (Nat.le_refl _) _, HST.out, rfl⟩
  case round =>
    obtain ⟨k, PA, pc, QA, qc, S, hkl, rfl, bw1, hv, hmay⟩ := hrel
    have HV := hid hv
    have HMAY := hid hmay
    have Z := hv.cells
    have f0 := frozen_of_row wr _ 0 _ _ hv.row
    have f1 := frozen_of_row wr _ 1 _ _ hv.row
    have hpl := hv.sh.plen
    have hpm := hv.sh.pmax
    clear hv hmay
    by_cases hlt : k < l.length
    · have hg : k < gs.length := by rw [H.out.len]; exact hlt
      obtain ⟨b, off, hA, hB, k0, k1, k2, k3, k4⟩ := (H.out.arr.below bw1).call0 hlt
      have HC := hid (H.out.each k hlt hg)
      have hlk : (k : Int) < (l.length : Int) := by omega
      obtain ⟨G, hG⟩ : ∃ G, G = gs[k] := ⟨_, rfl⟩
      rw [← hG] at HC
      clear hG
      have HAA := hid hA
      subst hA
      have hbr : b < wr.heap.size := Nat.lt_of_lt_of_le hB bw1.size
      go_wp2_with fail
      go_still_tail 5, (by kernel_rfl)
      go_wp2_with fail
      refine (large_any S PA pc QA qc l[k] G _ (in_below HV.out.sh (show Below wr.heap.size wr wr.drew from (by repeat (first | exact Below.refl _ _ | assumption | refine Below.drew ?_ | refine below_drewN ?_ _ | refine Below.alloc ?_ (by first | omega | (simp; done) | (simp; omega)) _ | refine Below.setCell ?_ (by first | omega | (simp; done) | (simp; omega)) _)))) ((HC.out.below (bw1.trans (show Below w.heap.size wr wr.drew from (by repeat (first | exact Below.refl _ _ | assumption | refine Below.drew ?_ | refine below_drewN ?_ _ | refine Below.alloc ?_ (by first | omega | (simp; done) | (simp; omega)) _ | refine Below.setCell ?_ (by first | omega | (simp; done) | (simp; omega)) _))))).more bw1.size)).mono ?_
      rintro e w2 ⟨r, rfl, hb2, hsm⟩
      replace Z := carry2 hb2 Z
      have st2 : Below wr.heap.size wr w2 := Below.trans (by repeat (first | exact Below.refl _ _ | assumption | refine Below.drew ?_ | refine below_drewN ?_ _ | refine Below.alloc ?_ (by first | omega | (simp; done) | (simp; omega)) _ | refine Below.setCell ?_ (by first | omega | (simp; done) | (simp; omega)) _)) (hb2.mono (show wr.heap.size ≤ _ from (by first | omega | (simp; done) | (simp; omega))))
      have bw2 : Below w.heap.size w w2 := bw1.trans (st2.mono bw1.size)
      cases r with
      | true =>
        clear hsm hb2
        go_wp2_with fail
        (refine (awake15 _).mono ?_; rintro e wZ ⟨rfl, hbZ⟩; go_wp2; go_ret; exact ⟨rfl, bw2.trans (Below.trans (b := _) (by repeat (first | exact Below.refl _ _ | assumption | refine Below.drew ?_ | refine below_drewN ?_ _ | refine Below.alloc ?_ (by first | omega | (simp; done) | (simp; omega)) _ | refine Below.setCell ?_ (by first | omega | (simp; done) | (simp; omega)) _)) (hbZ.mono (by first | exact bw2.size | (simp; have := bw2.size; omega))))⟩)
      | false =>
      have HS := hid (hsm rfl)
      clear hsm hb2
      have hk2 := HC.out.below bw2
      have c0 := Z.2.1
      have c1 := Z.2.2
      have hwn := Z.1
      have hb2 : b < w2.heap.size := Nat.lt_of_lt_of_le hB bw2.size
      obtain ⟨e0, e1, e2, e3, e4⟩ : w2.cell? ⟨b, off + k * 5, none⟩ = some (.int .i64 l[k].kind) ∧ w2.cell? ⟨b, off + k * 5 + 1, none⟩ = some (.string l[k].key) ∧ w2.cell? ⟨b, off + k * 5 + 2, none⟩ = some (.string l[k].val) ∧ w2.cell? ⟨b, off + k * 5 + 3, none⟩ = some (.string l[k].to) ∧ w2.cell? ⟨b, off + k * 5 + 4, none⟩ = some (.slice l[k].gA l[k].gn l[k].gc) :=
        ⟨(st2.cell (p := ⟨b, _, none⟩) hbr).trans k0, (st2.cell (p := ⟨b, _, none⟩) hbr).trans k1, (st2.cell (p := ⟨b, _, none⟩) hbr).trans k2, (st2.cell (p := ⟨b, _, none⟩) hbr).trans k3, (st2.cell (p := ⟨b, _, none⟩) hbr).trans k4⟩
      have HV2 := hid (HV.out.keep st2)
      have HK2 := hid hk2
      clear hk2
      go_upto_region 9 with fail
      go_cut [5, 6] (fun v5 v6 wx => Applied w2 wx (apS l[k] G S) (apA l[k] G S) v5 v6)
      case first =>
        go_region_held3 (fun w' => w'.cell? ⟨w.heap.size, 0, none⟩ = some (.slice PA S.pairs.length pc) ∧ w'.cell? ⟨w.heap.size, 1, none⟩ = some (.slice QA S.queue.length qc) ∧ w'.cell? ⟨b, off + k * 5, none⟩ = some (.int .i64 l[k].kind) ∧ w'.cell? ⟨b, off + k * 5 + 1, none⟩ = some (.string l[k].key) ∧ w'.cell? ⟨b, off + k * 5 + 2, none⟩ = some (.string l[k].val) ∧ w'.cell? ⟨b, off + k * 5 + 3, none⟩ = some (.string l[k].to) ∧ w'.cell? ⟨b, off + k * 5 + 4, none⟩ = some (.slice l[k].gA l[k].gn l[k].gc)) (first | exact keep7 (W := w2) (by repeat (first | with_reducible exact Below.refl _ _ | with_reducible assumption | with_reducible refine Below.drew ?_ | with_reducible refine below_drewN ?_ _ | with_reducible refine Below.alloc ?_ (by first | omega | (simp; done) | (simp; omega)) _ | with_reducible refine Below.setCell ?_ (by first | omega | (simp; done) | (simp; omega)) _)) hwn hb2 ⟨c0, c1, e0, e1, e2, e3, e4⟩ | go_keep) (first | (go_at_call 36; refine (apply_anyL S PA pc QA qc l[k] G _ ?_ (by have := HS.out.pairs; omega) (by have := HS.out.queue; omega) ?_).mono ?_; (refine (HV2.out.keep ?_).sh; exact (by repeat (first | with_reducible exact Below.refl _ _ | with_reducible assumption | with_reducible refine Below.drew ?_ | with_reducible refine below_drewN ?_ _ | with_reducible refine Below.alloc ?_ (by first | omega | (simp; done) | (simp; omega)) _ | with_reducible refine Below.setCell ?_ (by first | omega | (simp; done) | (simp; omega)) _))); (refine (HK2.out.below ?_).more ?_; (refine Below.mono ?_ bw2.size; exact (by repeat (first | with_reducible exact Below.refl _ _ | with_reducible assumption | with_reducible refine Below.drew ?_ | with_reducible refine below_drewN ?_ _ | with_reducible refine Below.alloc ?_ (by first | omega | (simp; done) | (simp; omega)) _ | with_reducible refine Below.setCell ?_ (by first | omega | (simp; done) | (simp; omega)) _))); (first | exact bw2.size | (simp; done) | (simp; have := bw2.size; omega))); rintro e wC ⟨loC, PX, px, QX, qx, RX, rx, HX, hx, hlo, rfl, hownX, hownR, hownH, hbC⟩; (try simp only [World.size_alloc, World.size_drew] at hlo); have HLO := hid hlo; clear hlo; have sC := hbC.size; obtain ⟨hcC, hfC⟩ := bcell hbC; (try simp only [World.size_alloc, World.size_drew] at sC); have sC2 : w2.heap.size ≤ wC.heap.size := (by omega); have stC : Below w2.heap.size w2 wC := (by refine Below.trans ?_ (hbC.mono ?_); exact (by repeat (first | with_reducible exact Below.refl _ _ | with_reducible assumption | with_reducible refine Below.drew ?_ | with_reducible refine below_drewN ?_ _ | with_reducible refine Below.alloc ?_ (by first | omega | (simp; done) | (simp; omega)) _ | with_reducible refine Below.setCell ?_ (by first | omega | (simp; done) | (simp; omega)) _)); (first | exact Nat.le_refl _ | (simp; done) | (simp; omega))); (try have s1 : w2.heap.size < wC.heap.size := by omega); (try have s2 : w2.heap.size + 1 < wC.heap.size := by omega)))
        all_goals
          go_wp2_with fail
          go_meet
          have hlo := HLO.out
          refine ⟨_, _, PX, px, QX, qx, RX, rx, HX, hx, rfl, rfl, (by repeat (first | with_reducible exact Below.refl _ _ | with_reducible assumption | with_reducible refine Below.drew ?_ | with_reducible refine below_drewN ?_ _ | with_reducible refine Below.alloc ?_ (by first | omega | (simp; done) | (simp; omega)) _ | with_reducible refine Below.setCell ?_ (by first | omega | (simp; done) | (simp; omega)) _)), by omega, ⟨?_, ?_, ?_⟩, ⟨?_, ?_, ?_, ?_, ?_, ?_⟩, ⟨Own.lower (lo := loC) ?_ (by omega), Own.lower (lo := loC) ?_ (by omega), hownX.apart⟩, Own.lower (lo := loC) ?_ (by omega)⟩
          all_goals repeat (first | with_reducible exact hownX.pairs | with_reducible exact hownX.queue | with_reducible exact hownH | with_reducible refine Own.drew ?_ | with_reducible refine Own.alloc ?_ _ | with_reducible refine Own.setCell ?_ (by first | (show w2.heap.size < loC; omega) | (show w2.heap.size + 1 < loC; omega)) _)
          all_goals first | omega | (simp; done) | (simp; omega) | (have z5 := fun o => hcC w2.heap.size o (by simp only [World.size_drew, World.size_alloc]; omega); have z6 := fun o => hcC (w2.heap.size + 1) o (by simp only [World.size_drew, World.size_alloc]; omega); simp [go_sem, z5, z6]; done) | (have z5 := fun o => hcC w2.heap.size o (by simp only [World.size_drew, World.size_alloc]; omega); simp [go_sem, z5, s1]; done)
      case rest =>
        obtain ⟨p5, p6, PX, px, QX, qx, RX, rx, HX, hx, rfl, rfl, st3, hp5, Y5, Y6, hownX, -⟩ := hcut
        have Z3 := carry2 st3 (show w.heap.size < w2.heap.size ∧ w2.cell? ⟨w.heap.size, 0, none⟩ = some (.slice PA S.pairs.length pc) ∧ w2.cell? ⟨w.heap.size, 1, none⟩ = some (.slice QA S.queue.length qc) from ⟨hwn, c0, c1⟩)
        have q0 := (st3.cell (p := ⟨b, off + k * 5, none⟩) hb2).trans e0
        have q1 := (st3.cell (p := ⟨b, off + k * 5 + 1, none⟩) hb2).trans e1
        have q2 := (st3.cell (p := ⟨b, off + k * 5 + 2, none⟩) hb2).trans e2
        have q3 := (st3.cell (p := ⟨b, off + k * 5 + 3, none⟩) hb2).trans e3
        have q4 := (st3.cell (p := ⟨b, off + k * 5 + 4, none⟩) hb2).trans e4
        have bwc := bw2.trans (st3.mono bw2.size)
        have hncc := Z3.1
        have hbcc : b < wc.heap.size := Nat.lt_of_lt_of_le hb2 st3.size
        have hp5c := Y5.1
        have hp6c := Y6.1
        have HRC := hid ((st3.block _ hwn).trans HV2.out.row)
        have HVC := hid (HV2.out.keep st3)
        have HKC := hid ((HK2.out.below (st3.mono bw2.size)).more bwc.size)
        rw [apA_code] at Y6
        have hmt := mayB_apS (c := l[k]) (g := G) HMAY.out
        have hgood := goodI_bit' l[k] G
        have hbadS : goodI l[k] G ≠ 0 → apS l[k] G S = S := fun h => by unfold apS; rw [if_neg h]
        obtain ⟨T, hT⟩ : ∃ T, T = apS l[k] G S := ⟨_, rfl⟩
        rw [← hT] at Y5 hownX hmt hbadS
        clear hT
        have HMT := hid hmt
        have HXO := hid hownX
        have hxl := hownX.pairs.len
        have hxm := hownX.pairs.max
        clear hmt hownX c0 c1 e0 e1 e2 e3 e4 k0 k1 k2 k3 k4 f0 f1 Z
        rcases hgood with hg0 | hg0 | hg0
        · have HG := hid hg0
          rw [hg0] at Y6
          clear hg0 hbadS
          have hall : wc.cell? ⟨w.heap.size, 0, none⟩ = some (.slice PA S.pairs.length pc) ∧ wc.cell? ⟨w.heap.size, 1, none⟩ = some (.slice QA S.queue.length qc) ∧ wc.cell? ⟨b, off + k * 5, none⟩ = some (.int .i64 l[k].kind) ∧ wc.cell? ⟨b, off + k * 5 + 1, none⟩ = some (.string l[k].key) ∧ wc.cell? ⟨b, off + k * 5 + 2, none⟩ = some (.string l[k].val) ∧ wc.cell? ⟨b, off + k * 5 + 3, none⟩ = some (.string l[k].to) ∧ wc.cell? ⟨b, off + k * 5 + 4, none⟩ = some (.slice l[k].gA l[k].gn l[k].gc) ∧ wc.cell? ⟨p5, 0, none⟩ = some (.slice PX T.pairs.length px) ∧ wc.cell? ⟨p5, 1, none⟩ = some (.slice QX T.queue.length qx) ∧ wc.cell? ⟨p6, 0, none⟩ = some (.int .i64 0) := ⟨Z3.2.1, Z3.2.2, q0, q1, q2, q3, q4, Y5.2.1, Y5.2.2, Y6.2.1⟩
          go_wp2_with fail
          have HALL := hid hall
          obtain ⟨h01, h02, h03, h04, h05, h06, h07, h08, h09, h10⟩ := hall
          go_region_with (first | (go_at_call 46; refine (may_any T PX px QX T.queue.length qx _ ?_ hxl hxm).mono ?_; (exact (in_below HXO.out.in_ (by repeat (first | with_reducible exact Below.refl _ _ | with_reducible assumption | with_reducible refine Below.drew ?_ | with_reducible refine below_drewN ?_ _ | with_reducible refine Below.alloc ?_ (by first | omega | (simp; done) | (simp; omega)) _ | with_reducible refine Below.setCell ?_ (by first | omega | (simp; done) | (simp; omega)) _))).pairs); rintro e wM ⟨rfl, hbM⟩; rw [HMT.out]; have stM : Below wc.heap.size wc wM := (by refine Below.trans ?_ (hbM.mono ?_); exact (by repeat (first | with_reducible exact Below.refl _ _ | with_reducible assumption | with_reducible refine Below.drew ?_ | with_reducible refine below_drewN ?_ _ | with_reducible refine Below.alloc ?_ (by first | omega | (simp; done) | (simp; omega)) _ | with_reducible refine Below.setCell ?_ (by first | omega | (simp; done) | (simp; omega)) _)); (first | exact Nat.le_refl _ | (simp; done) | exact stM.size | exact stG.size)); have yM := keep10 stM hncc hbcc hp5c hp6c HALL.out; have RM := (stM.block _ hncc).trans HRC.out; have f0 := frozen_of_row wM _ 0 _ _ RM; have f1 := frozen_of_row wM _ 1 _ _ RM) | (go_at_call 34; refine (good_any l[k] G _ ?_).mono ?_; (exact (HKC.out.below (show Below wc.heap.size wc _ from (by repeat (first | with_reducible exact Below.refl _ _ | with_reducible assumption | with_reducible refine Below.drew ?_ | with_reducible refine below_drewN ?_ _ | with_reducible refine Below.alloc ?_ (by first | omega | (simp; done) | (simp; omega)) _ | with_reducible refine Below.setCell ?_ (by first | omega | (simp; done) | (simp; omega)) _)))).more (show Below wc.heap.size wc _ from (by repeat (first | with_reducible exact Below.refl _ _ | with_reducible assumption | with_reducible refine Below.drew ?_ | with_reducible refine below_drewN ?_ _ | with_reducible refine Below.alloc ?_ (by first | omega | (simp; done) | (simp; omega)) _ | with_reducible refine Below.setCell ?_ (by first | omega | (simp; done) | (simp; omega)) _))).size); rintro e wG ⟨rfl, hbG⟩; rw [HG.out]; have stG : Below wc.heap.size wc wG := (by refine Below.trans ?_ (hbG.mono ?_); exact (by repeat (first | with_reducible exact Below.refl _ _ | with_reducible assumption | with_reducible refine Below.drew ?_ | with_reducible refine below_drewN ?_ _ | with_reducible refine Below.alloc ?_ (by first | omega | (simp; done) | (simp; omega)) _ | with_reducible refine Below.setCell ?_ (by first | omega | (simp; done) | (simp; omega)) _)); (first | exact Nat.le_refl _ | (simp; done) | exact stM.size | exact stG.size)); have yG := keep10 stG hncc hbcc hp5c hp6c HALL.out; have RG := (stG.block _ hncc).trans HRC.out; have f0 := frozen_of_row wG _ 0 _ _ RG; have f1 := frozen_of_row wG _ 1 _ _ RG))
          all_goals
            go_wp2_with fail
            refine ⟨⟨k + 1, PX, px, QX, qx, T, by omega, by go_num, ?_, VarI.put RG (in_below HXO.out.in_ stG) (HXO.out.pairs.off (.inl hwn)) (HXO.out.queue.off (.inl hwn)) rfl rfl, HMT.out⟩, by simp [intOf]; omega⟩
            exact ((bwc.trans (stG.mono bwc.size)).setCell (Nat.le_refl _) _).setCell (Nat.le_refl _) _
        · have HG := hid hg0
          obtain rfl : T = S := hbadS (by omega)
          rw [hg0] at Y6
          clear hg0 hbadS
          have hall : wc.cell? ⟨w.heap.size, 0, none⟩ = some (.slice PA T.pairs.length pc) ∧ wc.cell? ⟨w.heap.size, 1, none⟩ = some (.slice QA T.queue.length qc) ∧ wc.cell? ⟨b, off + k * 5, none⟩ = some (.int .i64 l[k].kind) ∧ wc.cell? ⟨b, off + k * 5 + 1, none⟩ = some (.string l[k].key) ∧ wc.cell? ⟨b, off + k * 5 + 2, none⟩ = some (.string l[k].val) ∧ wc.cell? ⟨b, off + k * 5 + 3, none⟩ = some (.string l[k].to) ∧ wc.cell? ⟨b, off + k * 5 + 4, none⟩ = some (.slice l[k].gA l[k].gn l[k].gc) ∧ wc.cell? ⟨p5, 0, none⟩ = some (.slice PX T.pairs.length px) ∧ wc.cell? ⟨p5, 1, none⟩ = some (.slice QX T.queue.length qx) ∧ wc.cell? ⟨p6, 0, none⟩ = some (.int .i64 1) := ⟨Z3.2.1, Z3.2.2, q0, q1, q2, q3, q4, Y5.2.1, Y5.2.2, Y6.2.1⟩
          go_wp2_with fail
          go_region_held3 (fun w' => w'.cell? ⟨w.heap.size, 0, none⟩ = some (.slice PA T.pairs.length pc) ∧ w'.cell? ⟨w.heap.size, 1, none⟩ = some (.slice QA T.queue.length qc) ∧ w'.cell? ⟨b, off + k * 5, none⟩ = some (.int .i64 l[k].kind) ∧ w'.cell? ⟨b, off + k * 5 + 1, none⟩ = some (.string l[k].key) ∧ w'.cell? ⟨b, off + k * 5 + 2, none⟩ = some (.string l[k].val) ∧ w'.cell? ⟨b, off + k * 5 + 3, none⟩ = some (.string l[k].to) ∧ w'.cell? ⟨b, off + k * 5 + 4, none⟩ = some (.slice l[k].gA l[k].gn l[k].gc) ∧ w'.cell? ⟨p5, 0, none⟩ = some (.slice PX T.pairs.length px) ∧ w'.cell? ⟨p5, 1, none⟩ = some (.slice QX T.queue.length qx) ∧ w'.cell? ⟨p6, 0, none⟩ = some (.int .i64 1)) (first | exact keep10 (W := wc) (by repeat (first | with_reducible exact Below.refl _ _ | with_reducible assumption | with_reducible refine Below.drew ?_ | with_reducible refine below_drewN ?_ _ | with_reducible refine Below.alloc ?_ (by first | omega | (simp; done) | (simp; omega)) _ | with_reducible refine Below.setCell ?_ (by first | omega | (simp; done) | (simp; omega)) _)) hncc hbcc hp5c hp6c hall | go_keep) (first | (go_at_call 46; refine (may_any T PX px QX T.queue.length qx _ ?_ hxl hxm).mono ?_; (exact (in_below HXO.out.in_ (by repeat (first | with_reducible exact Below.refl _ _ | with_reducible assumption | with_reducible refine Below.drew ?_ | with_reducible refine below_drewN ?_ _ | with_reducible refine Below.alloc ?_ (by first | omega | (simp; done) | (simp; omega)) _ | with_reducible refine Below.setCell ?_ (by first | omega | (simp; done) | (simp; omega)) _))).pairs); rintro e wM ⟨rfl, hbM⟩; rw [HMT.out]; have stM : Below wc.heap.size wc wM := (by refine Below.trans ?_ (hbM.mono ?_); exact (by repeat (first | with_reducible exact Below.refl _ _ | with_reducible assumption | with_reducible refine Below.drew ?_ | with_reducible refine below_drewN ?_ _ | with_reducible refine Below.alloc ?_ (by first | omega | (simp; done) | (simp; omega)) _ | with_reducible refine Below.setCell ?_ (by first | omega | (simp; done) | (simp; omega)) _)); (first | exact Nat.le_refl _ | (simp; done) | exact stM.size | exact stG.size)); have yM := keep10 stM hncc hbcc hp5c hp6c hall; have RM := (stM.block _ hncc).trans HRC.out; have f0 := frozen_of_row wM _ 0 _ _ RM; have f1 := frozen_of_row wM _ 1 _ _ RM) | (go_at_call 34; refine (good_any l[k] G _ ?_).mono ?_; (exact (HKC.out.below (show Below wc.heap.size wc _ from (by repeat (first | with_reducible exact Below.refl _ _ | with_reducible assumption | with_reducible refine Below.drew ?_ | with_reducible refine below_drewN ?_ _ | with_reducible refine Below.alloc ?_ (by first | omega | (simp; done) | (simp; omega)) _ | with_reducible refine Below.setCell ?_ (by first | omega | (simp; done) | (simp; omega)) _)))).more (show Below wc.heap.size wc _ from (by repeat (first | with_reducible exact Below.refl _ _ | with_reducible assumption | with_reducible refine Below.drew ?_ | with_reducible refine below_drewN ?_ _ | with_reducible refine Below.alloc ?_ (by first | omega | (simp; done) | (simp; omega)) _ | with_reducible refine Below.setCell ?_ (by first | omega | (simp; done) | (simp; omega)) _))).size); rintro e wG ⟨rfl, hbG⟩; rw [HG.out]; have stG : Below wc.heap.size wc wG := (by refine Below.trans ?_ (hbG.mono ?_); exact (by repeat (first | with_reducible exact Below.refl _ _ | with_reducible assumption | with_reducible refine Below.drew ?_ | with_reducible refine below_drewN ?_ _ | with_reducible refine Below.alloc ?_ (by first | omega | (simp; done) | (simp; omega)) _ | with_reducible refine Below.setCell ?_ (by first | omega | (simp; done) | (simp; omega)) _)); (first | exact Nat.le_refl _ | (simp; done) | exact stM.size | exact stG.size)); have yG := keep10 stG hncc hbcc hp5c hp6c hall; have RG := (stG.block _ hncc).trans HRC.out; have f0 := frozen_of_row wG _ 0 _ _ RG; have f1 := frozen_of_row wG _ 1 _ _ RG) | (go_at_call 27; refine (same_shelf T PX px QX qx PA pc QA qc _ ?_ ?_).mono ?_; (exact in_below HXO.out.in_ (by repeat (first | with_reducible exact Below.refl _ _ | with_reducible assumption | with_reducible refine Below.drew ?_ | with_reducible refine below_drewN ?_ _ | with_reducible refine Below.alloc ?_ (by first | omega | (simp; done) | (simp; omega)) _ | with_reducible refine Below.setCell ?_ (by first | omega | (simp; done) | (simp; omega)) _))); (exact in_below HVC.out.sh (by repeat (first | with_reducible exact Below.refl _ _ | with_reducible assumption | with_reducible refine Below.drew ?_ | with_reducible refine below_drewN ?_ _ | with_reducible refine Below.alloc ?_ (by first | omega | (simp; done) | (simp; omega)) _ | with_reducible refine Below.setCell ?_ (by first | omega | (simp; done) | (simp; omega)) _))); rintro e wS ⟨rfl, hbS⟩; have stS : Below wc.heap.size wc wS := (by refine Below.trans ?_ (hbS.mono ?_); exact (by repeat (first | with_reducible exact Below.refl _ _ | with_reducible assumption | with_reducible refine Below.drew ?_ | with_reducible refine below_drewN ?_ _ | with_reducible refine Below.alloc ?_ (by first | omega | (simp; done) | (simp; omega)) _ | with_reducible refine Below.setCell ?_ (by first | omega | (simp; done) | (simp; omega)) _)); (first | exact Nat.le_refl _ | (simp; done) | exact stM.size | exact stG.size)); have yS := keep10 stS hncc hbcc hp5c hp6c hall; have RS := (stS.block _ hncc).trans HRC.out; have f0 := frozen_of_row wS _ 0 _ _ RS; have f1 := frozen_of_row wS _ 1 _ _ RS))
          go_wp2_with fail
          refine ⟨⟨k + 1, PX, px, QX, qx, T, by omega, by go_num, ?_, VarI.put RS (in_below HXO.out.in_ stS) (HXO.out.pairs.off (.inl hwn)) (HXO.out.queue.off (.inl hwn)) rfl rfl, HMT.out⟩, by simp [intOf]; omega⟩
          exact ((bwc.trans (stS.mono bwc.size)).setCell (Nat.le_refl _) _).setCell (Nat.le_refl _) _
        · have HG := hid hg0
          obtain rfl : T = S := hbadS (by omega)
          rw [hg0] at Y6
          clear hg0 hbadS
          have hall : wc.cell? ⟨w.heap.size, 0, none⟩ = some (.slice PA T.pairs.length pc) ∧ wc.cell? ⟨w.heap.size, 1, none⟩ = some (.slice QA T.queue.length qc) ∧ wc.cell? ⟨b, off + k * 5, none⟩ = some (.int .i64 l[k].kind) ∧ wc.cell? ⟨b, off + k * 5 + 1, none⟩ = some (.string l[k].key) ∧ wc.cell? ⟨b, off + k * 5 + 2, none⟩ = some (.string l[k].val) ∧ wc.cell? ⟨b, off + k * 5 + 3, none⟩ = some (.string l[k].to) ∧ wc.cell? ⟨b, off + k * 5 + 4, none⟩ = some (.slice l[k].gA l[k].gn l[k].gc) ∧ wc.cell? ⟨p5, 0, none⟩ = some (.slice PX T.pairs.length px) ∧ wc.cell? ⟨p5, 1, none⟩ = some (.slice QX T.queue.length qx) ∧ wc.cell? ⟨p6, 0, none⟩ = some (.int .i64 5) := ⟨Z3.2.1, Z3.2.2, q0, q1, q2, q3, q4, Y5.2.1, Y5.2.2, Y6.2.1⟩
          go_wp2_with fail
          go_region_held3 (fun w' => w'.cell? ⟨w.heap.size, 0, none⟩ = some (.slice PA T.pairs.length pc) ∧ w'.cell? ⟨w.heap.size, 1, none⟩ = some (.slice QA T.queue.length qc) ∧ w'.cell? ⟨b, off + k * 5, none⟩ = some (.int .i64 l[k].kind) ∧ w'.cell? ⟨b, off + k * 5 + 1, none⟩ = some (.string l[k].key) ∧ w'.cell? ⟨b, off + k * 5 + 2, none⟩ = some (.string l[k].val) ∧ w'.cell? ⟨b, off + k * 5 + 3, none⟩ = some (.string l[k].to) ∧ w'.cell? ⟨b, off + k * 5 + 4, none⟩ = some (.slice l[k].gA l[k].gn l[k].gc) ∧ w'.cell? ⟨p5, 0, none⟩ = some (.slice PX T.pairs.length px) ∧ w'.cell? ⟨p5, 1, none⟩ = some (.slice QX T.queue.length qx) ∧ w'.cell? ⟨p6, 0, none⟩ = some (.int .i64 5)) (first | exact keep10 (W := wc) (by repeat (first | with_reducible exact Below.refl _ _ | with_reducible assumption | with_reducible refine Below.drew ?_ | with_reducible refine below_drewN ?_ _ | with_reducible refine Below.alloc ?_ (by first | omega | (simp; done) | (simp; omega)) _ | with_reducible refine Below.setCell ?_ (by first | omega | (simp; done) | (simp; omega)) _)) hncc hbcc hp5c hp6c hall | go_keep) (first | (go_at_call 46; refine (may_any T PX px QX T.queue.length qx _ ?_ hxl hxm).mono ?_; (exact (in_below HXO.out.in_ (by repeat (first | with_reducible exact Below.refl _ _ | with_reducible assumption | with_reducible refine Below.drew ?_ | with_reducible refine below_drewN ?_ _ | with_reducible refine Below.alloc ?_ (by first | omega | (simp; done) | (simp; omega)) _ | with_reducible refine Below.setCell ?_ (by first | omega | (simp; done) | (simp; omega)) _))).pairs); rintro e wM ⟨rfl, hbM⟩; rw [HMT.out]; have stM : Below wc.heap.size wc wM := (by refine Below.trans ?_ (hbM.mono ?_); exact (by repeat (first | with_reducible exact Below.refl _ _ | with_reducible assumption | with_reducible refine Below.drew ?_ | with_reducible refine below_drewN ?_ _ | with_reducible refine Below.alloc ?_ (by first | omega | (simp; done) | (simp; omega)) _ | with_reducible refine Below.setCell ?_ (by first | omega | (simp; done) | (simp; omega)) _)); (first | exact Nat.le_refl _ | (simp; done) | exact stM.size | exact stG.size)); have yM := keep10 stM hncc hbcc hp5c hp6c hall; have RM := (stM.block _ hncc).trans HRC.out; have f0 := frozen_of_row wM _ 0 _ _ RM; have f1 := frozen_of_row wM _ 1 _ _ RM) | (go_at_call 34; refine (good_any l[k] G _ ?_).mono ?_; (exact (HKC.out.below (show Below wc.heap.size wc _ from (by repeat (first | with_reducible exact Below.refl _ _ | with_reducible assumption | with_reducible refine Below.drew ?_ | with_reducible refine below_drewN ?_ _ | with_reducible refine Below.alloc ?_ (by first | omega | (simp; done) | (simp; omega)) _ | with_reducible refine Below.setCell ?_ (by first | omega | (simp; done) | (simp; omega)) _)))).more (show Below wc.heap.size wc _ from (by repeat (first | with_reducible exact Below.refl _ _ | with_reducible assumption | with_reducible refine Below.drew ?_ | with_reducible refine below_drewN ?_ _ | with_reducible refine Below.alloc ?_ (by first | omega | (simp; done) | (simp; omega)) _ | with_reducible refine Below.setCell ?_ (by first | omega | (simp; done) | (simp; omega)) _))).size); rintro e wG ⟨rfl, hbG⟩; rw [HG.out]; have stG : Below wc.heap.size wc wG := (by refine Below.trans ?_ (hbG.mono ?_); exact (by repeat (first | with_reducible exact Below.refl _ _ | with_reducible assumption | with_reducible refine Below.drew ?_ | with_reducible refine below_drewN ?_ _ | with_reducible refine Below.alloc ?_ (by first | omega | (simp; done) | (simp; omega)) _ | with_reducible refine Below.setCell ?_ (by first | omega | (simp; done) | (simp; omega)) _)); (first | exact Nat.le_refl _ | (simp; done) | exact stM.size | exact stG.size)); have yG := keep10 stG hncc hbcc hp5c hp6c hall; have RG := (stG.block _ hncc).trans HRC.out; have f0 := frozen_of_row wG _ 0 _ _ RG; have f1 := frozen_of_row wG _ 1 _ _ RG) | (go_at_call 27; refine (same_shelf T PX px QX qx PA pc QA qc _ ?_ ?_).mono ?_; (exact in_below HXO.out.in_ (by repeat (first | with_reducible exact Below.refl _ _ | with_reducible assumption | with_reducible refine Below.drew ?_ | with_reducible refine below_drewN ?_ _ | with_reducible refine Below.alloc ?_ (by first | omega | (simp; done) | (simp; omega)) _ | with_reducible refine Below.setCell ?_ (by first | omega | (simp; done) | (simp; omega)) _))); (exact in_below HVC.out.sh (by repeat (first | with_reducible exact Below.refl _ _ | with_reducible assumption | with_reducible refine Below.drew ?_ | with_reducible refine below_drewN ?_ _ | with_reducible refine Below.alloc ?_ (by first | omega | (simp; done) | (simp; omega)) _ | with_reducible refine Below.setCell ?_ (by first | omega | (simp; done) | (simp; omega)) _))); rintro e wS ⟨rfl, hbS⟩; have stS : Below wc.heap.size wc wS := (by refine Below.trans ?_ (hbS.mono ?_); exact (by repeat (first | with_reducible exact Below.refl _ _ | with_reducible assumption | with_reducible refine Below.drew ?_ | with_reducible refine below_drewN ?_ _ | with_reducible refine Below.alloc ?_ (by first | omega | (simp; done) | (simp; omega)) _ | with_reducible refine Below.setCell ?_ (by first | omega | (simp; done) | (simp; omega)) _)); (first | exact Nat.le_refl _ | (simp; done) | exact stM.size | exact stG.size)); have yS := keep10 stS hncc hbcc hp5c hp6c hall; have RS := (stS.block _ hncc).trans HRC.out; have f0 := frozen_of_row wS _ 0 _ _ RS; have f1 := frozen_of_row wS _ 1 _ _ RS))
          go_wp2_with fail
          refine ⟨⟨k + 1, PX, px, QX, qx, T, by omega, by go_num, ?_, VarI.put RS (in_below HXO.out.in_ stS) (HXO.out.pairs.off (.inl hwn)) (HXO.out.queue.off (.inl hwn)) rfl rfl, HMT.out⟩, by simp [intOf]; omega⟩
          exact ((bwc.trans (stS.mono bwc.size)).setCell (Nat.le_refl _) _).setCell (Nat.le_refl _) _
    · go_wp2_with fail
      (refine (awake15 _).mono ?_; rintro e wZ ⟨rfl, hbZ⟩; go_wp2; go_ret; exact ⟨rfl, bw1.trans (Below.trans (b := _) (by repeat (first | exact Below.refl _ _ | assumption | refine Below.drew ?_ | refine below_drewN ?_ _ | refine Below.alloc ?_ (by first | omega | (simp; done) | (simp; omega)) _ | refine Below.setCell ?_ (by first | omega | (simp; done) | (simp; omega)) _)) (hbZ.mono (by first | exact bw1.size | (simp; have := bw1.size; omega))))⟩)
end Go.Proofs.Ythpegmeebhkhbaa
