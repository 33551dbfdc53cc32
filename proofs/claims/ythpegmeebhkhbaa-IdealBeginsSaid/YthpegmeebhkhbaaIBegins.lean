/- The statement IdealBegins: the walk. -/
import Derived.Test.YthpegmeebhkhbaaBegin3
import Derived.Test.YthpegmeebhkhbaaIGood
namespace Go.Proofs.Ythpegmeebhkhbaa
open Go.RowKit

theorem same_frame_gs (kind : Int) (key val to' : ByteArray) (gs g : List Call0) (B : Option Addr) (d : Nat) (gA : Option Addr) (gc : Nat) (w : World) (hB : Arr Call0.enc 5 w w.heap.size B gs) (hA : Arr Call0.enc 5 w w.heap.size gA g) (hc : g.length ≤ d) (hm : d ≤ 9223372036854775807) (hs : Sims gs g) :
    Calls Try.prog 39 #[.agg (frameL kind key val to' B g.length d).toArray, .agg (frameL kind key val to' gA g.length gc).toArray] w fun e w' => e = .returned (.bool true) ∧ Below w.heap.size w w' := by
  have h := same_frame kind key val to' gs g B d gA gc w hB hA (by rw [hs.1]; exact hc) hm hs.1 fun i h1 h2 => (hs.2 i h1 h2).1
  rw [hs.1] at h
  exact h
theorem kept5 {W W' : World} {p : Nat} {v0 v1 v2 v3 v4 : Value} (hb : Below W.heap.size W W') (hp : p < W.heap.size)
    (h : W.cell? ⟨p, 0, none⟩ = some v0 ∧ W.cell? ⟨p, 1, none⟩ = some v1 ∧ W.cell? ⟨p, 2, none⟩ = some v2 ∧ W.cell? ⟨p, 3, none⟩ = some v3 ∧ W.cell? ⟨p, 4, none⟩ = some v4) :
    W'.cell? ⟨p, 0, none⟩ = some v0 ∧ W'.cell? ⟨p, 1, none⟩ = some v1 ∧ W'.cell? ⟨p, 2, none⟩ = some v2 ∧ W'.cell? ⟨p, 3, none⟩ = some v3 ∧ W'.cell? ⟨p, 4, none⟩ = some v4 := by
  rw [hb.cell (p := ⟨p, 0, none⟩) hp, hb.cell (p := ⟨p, 1, none⟩) hp, hb.cell (p := ⟨p, 2, none⟩) hp, hb.cell (p := ⟨p, 3, none⟩) hp, hb.cell (p := ⟨p, 4, none⟩) hp]
  exact h
set_option maxHeartbeats 4000000 in
set_option maxRecDepth 100000 in
theorem idealBegins_any (c : Call0) (g : List Call0) (w : World) (hc : CallIn w w.heap.size c g) (he : ∀ x ∈ g, ∃ g', CallIn w w.heap.size x g') :
    Calls Try.prog 11 #[.agg #[.int .i64 c.kind, .string c.key, .string c.val, .string c.to, .slice c.gA c.gn c.gc]] w fun e w' => e = .returned (.bool true) ∧ Below w.heap.size w w' := by
  have HGC := hid (fun x (hx : x ∈ g) => show x.gc ≤ 9223372036854775807 from by obtain ⟨g', h⟩ := he x hx; exact h.max)
  clear he
  obtain ⟨kind, key, val, to', gA, gn, gc⟩ := c
  obtain rfl : gn = g.length := hc.len
  have HC := hid hc
  clear hc
  go_enter Try.func11, Try.ntmps11
  go_wp2_with fail
  refine (large_any ⟨[], []⟩ none 0 none 0 ⟨kind, key, val, to', gA, g.length, gc⟩ g _ ⟨Arr.nil, Nat.le_refl _, by simp, Arr.nil, Nat.le_refl _, by simp⟩ ((HC.out.below (by repeat (first | exact Below.refl _ _ | assumption | refine Below.drew ?_ | refine below_drewN ?_ _ | refine Below.alloc ?_ (by first | omega | (simp; done) | (simp; omega)) _ | refine Below.setCell ?_ (by first | omega | (simp; done) | (simp; omega)) _))).more (by first | omega | (simp; done) | (simp; omega)))).mono ?_
  rintro e w1 ⟨r, rfl, hb1, hsm⟩
  have bw1 : Below w.heap.size w w1 := Below.trans (by repeat (first | exact Below.refl _ _ | assumption | refine Below.drew ?_ | refine below_drewN ?_ _ | refine Below.alloc ?_ (by first | omega | (simp; done) | (simp; omega)) _ | refine Below.setCell ?_ (by first | omega | (simp; done) | (simp; omega)) _)) (hb1.mono (show w.heap.size ≤ _ from (by first | omega | (simp; done) | (simp; omega))))
  have hz := hb1.size
  simp only [World.size_alloc] at hz
  have x0 := (hb1.cell (p := ⟨w.heap.size, 0, none⟩) (by simp)).trans (show _ = some (Value.int .i64 kind) from (by simp [go_sem]))
  have x1 := (hb1.cell (p := ⟨w.heap.size, 1, none⟩) (by simp)).trans (show _ = some (Value.string key) from (by simp [go_sem]))
  have x2 := (hb1.cell (p := ⟨w.heap.size, 2, none⟩) (by simp)).trans (show _ = some (Value.string val) from (by simp [go_sem]))
  have x3 := (hb1.cell (p := ⟨w.heap.size, 3, none⟩) (by simp)).trans (show _ = some (Value.string to') from (by simp [go_sem]))
  have x4 := (hb1.cell (p := ⟨w.heap.size, 4, none⟩) (by simp)).trans (show _ = some (Value.slice gA g.length gc) from (by simp [go_sem]))
  have hn1 : w.heap.size < w1.heap.size := by omega
  clear hb1
  cases r with
  | true =>
    clear hsm
    go_wp2_with fail
    refine (awake15 _).mono ?_
    rintro e w2 ⟨rfl, hb2⟩
    go_wp2
    go_ret
    exact ⟨rfl, bw1.trans (hb2.mono bw1.size)⟩
  | false =>
  have hS := hsm rfl
  have HG20 := hid (show g.length ≤ 100000 by have := hS.group; omega)
  have HGN := hid hS.flat
  have HCP := hid (fun X (hX : Below w1.heap.size w1 X) => copyCall_any ⟨kind, key, val, to', gA, g.length, gc⟩ g X ((HC.out.below (bw1.trans (hX.mono bw1.size))).more (bw1.trans (hX.mono bw1.size)).size) (by have := hS.group; omega))
  have HGA := hid (fun X (hX : Below w1.heap.size w1 X) => show Arr Call0.enc 5 X X.heap.size gA g from ((HC.out.below (bw1.trans (hX.mono bw1.size))).more (bw1.trans (hX.mono bw1.size)).size).arr)
  have HALL := hid (And.intro x0 (And.intro x1 (And.intro x2 (And.intro x3 x4))))
  have HB := hid bw1
  clear hsm hS bw1
  go_wp2_with fail
  go_region_held3 (fun W' => W'.cell? ⟨w.heap.size, 0, none⟩ = some (.int .i64 kind) ∧ W'.cell? ⟨w.heap.size, 1, none⟩ = some (.string key) ∧ W'.cell? ⟨w.heap.size, 2, none⟩ = some (.string val) ∧ W'.cell? ⟨w.heap.size, 3, none⟩ = some (.string to') ∧ W'.cell? ⟨w.heap.size, 4, none⟩ = some (.slice gA g.length gc)) (first | exact kept5 (W := w1) (by repeat (first | with_reducible exact Below.refl _ _ | with_reducible assumption | with_reducible refine Below.drew ?_ | with_reducible refine below_drewN ?_ _ | with_reducible refine Below.alloc ?_ (by first | omega | (simp; done) | (simp; omega)) _ | with_reducible refine Below.setCell ?_ (by first | omega | (simp; done) | (simp; omega)) _)) hn1 HALL.out | go_keep) (first | (go_at_call 41; refine (HCP.out _ ?_).mono ?_; (exact (by repeat (first | with_reducible exact Below.refl _ _ | with_reducible assumption | with_reducible refine Below.drew ?_ | with_reducible refine below_drewN ?_ _ | with_reducible refine Below.alloc ?_ (by first | omega | (simp; done) | (simp; omega)) _ | with_reducible refine Below.setCell ?_ (by first | omega | (simp; done) | (simp; omega)) _))); rintro e wA ⟨A', c', rfl, hown, hbA⟩; have stA : Below w1.heap.size w1 wA := (by refine Below.trans ?_ (hbA.mono ?_); exact (by repeat (first | with_reducible exact Below.refl _ _ | with_reducible assumption | with_reducible refine Below.drew ?_ | with_reducible refine below_drewN ?_ _ | with_reducible refine Below.alloc ?_ (by first | omega | (simp; done) | (simp; omega)) _ | with_reducible refine Below.setCell ?_ (by first | omega | (simp; done) | (simp; omega)) _)); (first | exact Nat.le_refl _ | (simp; done)))) | (go_at_call 40; refine (begin_any kind key val to' A' g c' _ ?_ hown.len hown.max HG20.out HGN.out HGC.out).mono ?_; (exact ((hown.arr Call0.enc_len).below (show Below wA.heap.size wA _ from (by repeat (first | with_reducible exact Below.refl _ _ | with_reducible assumption | with_reducible refine Below.drew ?_ | with_reducible refine below_drewN ?_ _ | with_reducible refine Below.alloc ?_ (by first | omega | (simp; done) | (simp; omega)) _ | with_reducible refine Below.setCell ?_ (by first | omega | (simp; done) | (simp; omega)) _)))).more (show Below wA.heap.size wA _ from (by repeat (first | with_reducible exact Below.refl _ _ | with_reducible assumption | with_reducible refine Below.drew ?_ | with_reducible refine below_drewN ?_ _ | with_reducible refine Below.alloc ?_ (by first | omega | (simp; done) | (simp; omega)) _ | with_reducible refine Below.setCell ?_ (by first | omega | (simp; done) | (simp; omega)) _))).size); rintro e wB ⟨B, d, gs, rfl, harr, hd1, hd2, hsim, hbB⟩; have stB : Below w1.heap.size w1 wB := (by refine Below.trans ?_ (hbB.mono ?_); exact (by repeat (first | with_reducible exact Below.refl _ _ | with_reducible assumption | with_reducible refine Below.drew ?_ | with_reducible refine below_drewN ?_ _ | with_reducible refine Below.alloc ?_ (by first | omega | (simp; done) | (simp; omega)) _ | with_reducible refine Below.setCell ?_ (by first | omega | (simp; done) | (simp; omega)) _)); (first | exact Nat.le_refl _ | (simp; done) | exact stA.size))) | (go_at_call 39; refine (same_frame_gs kind key val to' gs g B d gA gc _ ?_ ?_ hd1 hd2 hsim).mono ?_; (exact (harr.below (show Below wB.heap.size wB _ from (by repeat (first | with_reducible exact Below.refl _ _ | with_reducible assumption | with_reducible refine Below.drew ?_ | with_reducible refine below_drewN ?_ _ | with_reducible refine Below.alloc ?_ (by first | omega | (simp; done) | (simp; omega)) _ | with_reducible refine Below.setCell ?_ (by first | omega | (simp; done) | (simp; omega)) _)))).more (show Below wB.heap.size wB _ from (by repeat (first | with_reducible exact Below.refl _ _ | with_reducible assumption | with_reducible refine Below.drew ?_ | with_reducible refine below_drewN ?_ _ | with_reducible refine Below.alloc ?_ (by first | omega | (simp; done) | (simp; omega)) _ | with_reducible refine Below.setCell ?_ (by first | omega | (simp; done) | (simp; omega)) _))).size); (exact HGA.out _ (by repeat (first | with_reducible exact Below.refl _ _ | with_reducible assumption | with_reducible refine Below.drew ?_ | with_reducible refine below_drewN ?_ _ | with_reducible refine Below.alloc ?_ (by first | omega | (simp; done) | (simp; omega)) _ | with_reducible refine Below.setCell ?_ (by first | omega | (simp; done) | (simp; omega)) _))); rintro e wC ⟨rfl, hbC⟩; have stC : Below w1.heap.size w1 wC := (by refine Below.trans ?_ (hbC.mono ?_); exact (by repeat (first | with_reducible exact Below.refl _ _ | with_reducible assumption | with_reducible refine Below.drew ?_ | with_reducible refine below_drewN ?_ _ | with_reducible refine Below.alloc ?_ (by first | omega | (simp; done) | (simp; omega)) _ | with_reducible refine Below.setCell ?_ (by first | omega | (simp; done) | (simp; omega)) _)); (first | exact Nat.le_refl _ | (simp; done) | exact stB.size | exact stA.size))) | (go_at_call 32; refine (awake15 _).mono ?_; rintro e wZ ⟨rfl, hbZ⟩; have stZ : Below w1.heap.size w1 wZ := (by refine Below.trans ?_ (hbZ.mono ?_); exact (by repeat (first | with_reducible exact Below.refl _ _ | with_reducible assumption | with_reducible refine Below.drew ?_ | with_reducible refine below_drewN ?_ _ | with_reducible refine Below.alloc ?_ (by first | omega | (simp; done) | (simp; omega)) _ | with_reducible refine Below.setCell ?_ (by first | omega | (simp; done) | (simp; omega)) _)); (first | exact Nat.le_refl _ | (simp; done) | exact stC.size | exact stB.size | exact stA.size))))
  go_wp2
  go_ret
  exact ⟨rfl, HB.out.trans (stZ.mono HB.out.size)⟩
end Go.Proofs.Ythpegmeebhkhbaa
