/- The statement AuditEffects: the walk. -/
import Derived.Test.YthpegmeebhkhbaaABreaks
import Derived.Test.YthpegmeebhkhbaaWholeR
namespace Go.Proofs.Ythpegmeebhkhbaa
open Go.RowKit

noncomputable def wholeB (l : List Eff) : Bool := @decide (WholeP l) (Classical.propDecidable _)
theorem wholeB_of {l : List Eff} {r : Bool} (h : r = true ↔ WholeP l) : r = wholeB l := by
  unfold wholeB
  cases r with
  | true => exact (@decide_eq_true _ (Classical.propDecidable _) (h.1 rfl)).symm
  | false => exact (@decide_eq_false _ (Classical.propDecidable _) fun hw => by have := h.2 hw; cases this).symm
theorem whole_anyB (l : List Eff) (A : Option Addr) (c : Nat) (w : World) (hA : Arr Eff.enc 7 w w.heap.size A l) (hc : l.length ≤ c) (hm : c ≤ 9223372036854775807) (hwf : ∀ x ∈ l, (Lit.int .i64 x.group).wf = true) :
    Calls Try.prog 28 #[.slice A l.length c] w fun e w' => e = .returned (.bool (wholeB l)) ∧ Below w.heap.size w w' :=
  (whole_any l A c w hA hc hm hwf).mono fun _ _ ⟨r, h1, h2, h3⟩ => ⟨by rw [h1, wholeB_of h2], h3⟩
theorem refwhole_anyB (l : List Eff) (A : Option Addr) (c : Nat) (w : World) (hA : Arr Eff.enc 7 w w.heap.size A l) (hc : l.length ≤ c) (hm : c ≤ 9223372036854775807) :
    Calls Try.prog 29 #[.slice A l.length c] w fun e w' => e = .returned (.bool (wholeB l)) ∧ Below w.heap.size w w' :=
  (refwhole_any l A c w hA hc hm).mono fun _ _ ⟨r, h1, h2, h3⟩ => ⟨by rw [h1, wholeB_of h2], h3⟩
theorem refprefix_anyS (l : List Eff) (A : Option Addr) (c : Nat) (upto : Int) (S s : Shelf) (hS : Hid (S = replay l upto)) (PA : Option Addr) (pc : Nat) (QA : Option Addr) (qc : Nat) (w : World) (hA : Arr Eff.enc 7 w w.heap.size A l) (hc : l.length ≤ c) (hm : c ≤ 9223372036854775807) (hl : l.length ≤ 60) (h : ShIn w w.heap.size PA pc QA qc s) :
    Calls Try.prog 30 #[.slice A l.length c, .int .u64 upto, .agg #[.slice PA s.pairs.length pc, .slice QA s.queue.length qc]] w fun e w' => e = .returned (.bool (sameS S s)) ∧ Below w.heap.size w w' := by
  rw [hS.out]
  exact refprefix_any l A c upto s PA pc QA qc w hA hc hm hl h
set_option maxHeartbeats 4000000 in
set_option maxRecDepth 100000 in
theorem auditEffects_any (l : List Eff) (A : Option Addr) (c : Nat) (upto : Int) (s : Shelf) (PA : Option Addr) (pc : Nat) (QA : Option Addr) (qc : Nat) (w : World) (hA : Arr Eff.enc 7 w w.heap.size A l) (hc : l.length ≤ c) (hm : c ≤ 9223372036854775807) (hwf : ∀ x ∈ l, (Lit.int .i64 x.group).wf = true) (h : ShIn w w.heap.size PA pc QA qc s) :
    Calls Try.prog 7 #[.slice A l.length c, .int .u64 upto, .agg #[.slice PA s.pairs.length pc, .slice QA s.queue.length qc]] w fun e w' => e = .returned (.bool true) ∧ Below w.heap.size w w' := by
  have HA := hid hA
  have H := hid h
  have HWF := hid hwf
  clear hA h hwf
  go_enter Try.func7, Try.ntmps7
  go_wp2_with fail
  refine (few_any l A c s PA pc QA qc _ ((HA.out.below (by repeat (first | exact Below.refl _ _ | assumption | refine Below.drew ?_ | refine below_drewN ?_ _ | refine Below.alloc ?_ (by first | omega | (simp; done) | (simp; omega)) _ | refine Below.setCell ?_ (by first | omega | (simp; done) | (simp; omega)) _))).more (by first | omega | (simp; done) | (simp; omega))) hc hm (in_below H.out (by repeat (first | exact Below.refl _ _ | assumption | refine Below.drew ?_ | refine below_drewN ?_ _ | refine Below.alloc ?_ (by first | omega | (simp; done) | (simp; omega)) _ | refine Below.setCell ?_ (by first | omega | (simp; done) | (simp; omega)) _)))).mono ?_
  rintro e w1 ⟨r, rfl, hb1, hl⟩
  have bw1 : Below w.heap.size w w1 := Below.trans (by repeat (first | exact Below.refl _ _ | assumption | refine Below.drew ?_ | refine below_drewN ?_ _ | refine Below.alloc ?_ (by first | omega | (simp; done) | (simp; omega)) _ | refine Below.setCell ?_ (by first | omega | (simp; done) | (simp; omega)) _)) (hb1.mono (show w.heap.size ≤ _ from (by first | omega | (simp; done) | (simp; omega))))
  have hz1 := hb1.size
  simp only [World.size_alloc] at hz1
  have c0 := (hb1.cell (p := ⟨w.heap.size, 0, none⟩) (by simp)).trans (show _ = some (Value.slice PA s.pairs.length pc) from (by simp [go_sem]))
  have c1 := (hb1.cell (p := ⟨w.heap.size, 1, none⟩) (by simp)).trans (show _ = some (Value.slice QA s.queue.length qc) from (by simp [go_sem]))
  have hn1 : w.heap.size < w1.heap.size := by omega
  clear hb1
  cases r with
  | false =>
    go_wp2_with fail
    refine (awake26 _).mono ?_
    rintro e w2 ⟨rfl, hb2⟩
    go_wp2
    go_ret
    exact ⟨rfl, bw1.trans (hb2.mono bw1.size)⟩
  | true =>
  have hl60 := hl rfl
  clear hl
  go_wp2_with fail
  refine (replay_anyS l _ c upto _ ((HA.out.below bw1).more bw1.size) hc hm hl60).mono ?_
  rintro e w2 ⟨S, PX, px, QX, qx, HS, rfl, hownX, hb2⟩
  have bw2 : Below w1.heap.size w1 w2 := hb2
  have HX := hid hownX.in_
  have hz2 := hb2.size
  have k0 := (hb2.cell (p := ⟨w.heap.size, 0, none⟩) hn1).trans c0
  have k1 := (hb2.cell (p := ⟨w.heap.size, 1, none⟩) hn1).trans c1
  have hn2 : w.heap.size < w2.heap.size := by omega
  have HB2 := hid (bw1.trans (bw2.mono bw1.size))
  clear hownX hb2 bw1 bw2 c0 c1
  have eqW : (wholeB l == wholeB l) = true := by simp
  have eqS : (sameS S s == sameS S s) = true := by simp
  have eqT : sameS S S = true := sameS_refl S
  go_upto_region 4 with fail
  obtain ⟨W, hW⟩ : ∃ W, W = w2.alloc (.cells #[.slice PX S.pairs.length px, .slice QX S.queue.length qx] 41) := ⟨_, rfl⟩
  rw [← hW]
  have hbW : Below w2.heap.size w2 W := by rw [hW]; exact (by repeat (first | exact Below.refl _ _ | assumption | refine Below.drew ?_ | refine below_drewN ?_ _ | refine Below.alloc ?_ (by first | omega | (simp; done) | (simp; omega)) _ | refine Below.setCell ?_ (by first | omega | (simp; done) | (simp; omega)) _))
  have hn7 : w.heap.size < W.heap.size := by rw [hW]; simp; omega
  have hn8 : w2.heap.size < W.heap.size := by rw [hW]; simp
  have x1 := (hbW.cell (p := ⟨w.heap.size, 0, none⟩) hn2).trans k0
  have x2 := (hbW.cell (p := ⟨w.heap.size, 1, none⟩) hn2).trans k1
  have y1 : W.cell? ⟨w2.heap.size, 0, none⟩ = some (.slice PX S.pairs.length px) := by rw [hW]; simp [go_sem]
  have y2 : W.cell? ⟨w2.heap.size, 1, none⟩ = some (.slice QX S.queue.length qx) := by rw [hW]; simp [go_sem]
  clear hW k0 k1
  have bwW : Below w.heap.size w W := HB2.out.trans (hbW.mono HB2.out.size)
  have HBW := hid bwW
  have hAX : ∀ X, Below W.heap.size W X → Arr Eff.enc 7 X X.heap.size A l := fun X hX => (HA.out.below (bwW.trans (hX.mono bwW.size))).more (bwW.trans (hX.mono bwW.size)).size
  have hXX : ∀ X, Below W.heap.size W X → ShIn X X.heap.size PX px QX qx S := fun X hX => in_below (in_below HX.out hbW) hX
  have hsX : ∀ X, Below W.heap.size W X → ShIn X X.heap.size PA pc QA qc s := fun X hX => in_below (in_below H.out bwW) hX
  have HWH := hid (fun X (hX : Below W.heap.size W X) => whole_anyB l A c X (hAX X hX) hc hm HWF.out)
  have HWR := hid (fun X (hX : Below W.heap.size W X) => refwhole_anyB l A c X (hAX X hX) hc hm)
  have HPA := hid (fun X (hX : Below W.heap.size W X) => prefix_anyS l A c upto S s HS PA pc QA qc X (hAX X hX) hc hm hl60 (hsX X hX))
  have HPR := hid (fun X (hX : Below W.heap.size W X) => refprefix_anyS l A c upto S s HS PA pc QA qc X (hAX X hX) hc hm hl60 (hsX X hX))
  have HPT := hid (fun X (hX : Below W.heap.size W X) => prefix_anyS l A c upto S S HS PX px QX qx X (hAX X hX) hc hm hl60 (hXX X hX))
  clear hAX hXX hsX bwW hbW
  have HALL := hid (show W.cell? ⟨w.heap.size, 0, none⟩ = some (.slice PA s.pairs.length pc) ∧ W.cell? ⟨w.heap.size, 1, none⟩ = some (.slice QA s.queue.length qc) ∧ W.cell? ⟨w2.heap.size, 0, none⟩ = some (.slice PX S.pairs.length px) ∧ W.cell? ⟨w2.heap.size, 1, none⟩ = some (.slice QX S.queue.length qx) from ⟨x1, x2, y1, y2⟩)
  go_region_held3 (fun w' => w'.cell? ⟨w.heap.size, 0, none⟩ = some (.slice PA s.pairs.length pc) ∧ w'.cell? ⟨w.heap.size, 1, none⟩ = some (.slice QA s.queue.length qc) ∧ w'.cell? ⟨w2.heap.size, 0, none⟩ = some (.slice PX S.pairs.length px) ∧ w'.cell? ⟨w2.heap.size, 1, none⟩ = some (.slice QX S.queue.length qx)) (first | exact keep4 (W := W) (by repeat (first | with_reducible exact Below.refl _ _ | with_reducible assumption | with_reducible refine Below.drew ?_ | with_reducible refine below_drewN ?_ _ | with_reducible refine Below.alloc ?_ (by first | omega | (simp; done) | (simp; omega)) _ | with_reducible refine Below.setCell ?_ (by first | omega | (simp; done) | (simp; omega)) _)) hn7 hn8 HALL.out | go_keep) (first | (go_at_call 28; refine (HWH.out _ ?_).mono ?_; (exact (by repeat (first | with_reducible exact Below.refl _ _ | with_reducible assumption | with_reducible refine Below.drew ?_ | with_reducible refine below_drewN ?_ _ | with_reducible refine Below.alloc ?_ (by first | omega | (simp; done) | (simp; omega)) _ | with_reducible refine Below.setCell ?_ (by first | omega | (simp; done) | (simp; omega)) _))); rintro e wA ⟨rfl, hbA⟩; have stA : Below W.heap.size W wA := (by refine Below.trans ?_ (hbA.mono ?_); exact (by repeat (first | with_reducible exact Below.refl _ _ | with_reducible assumption | with_reducible refine Below.drew ?_ | with_reducible refine below_drewN ?_ _ | with_reducible refine Below.alloc ?_ (by first | omega | (simp; done) | (simp; omega)) _ | with_reducible refine Below.setCell ?_ (by first | omega | (simp; done) | (simp; omega)) _)); (first | exact Nat.le_refl _ | (simp; done) | exact stB.size | exact stC.size | exact stD.size | exact stE.size | exact stZ.size))) | (go_at_call 29; refine (HWR.out _ ?_).mono ?_; (exact (by repeat (first | with_reducible exact Below.refl _ _ | with_reducible assumption | with_reducible refine Below.drew ?_ | with_reducible refine below_drewN ?_ _ | with_reducible refine Below.alloc ?_ (by first | omega | (simp; done) | (simp; omega)) _ | with_reducible refine Below.setCell ?_ (by first | omega | (simp; done) | (simp; omega)) _))); rintro e wB ⟨rfl, hbB⟩; have stB : Below W.heap.size W wB := (by refine Below.trans ?_ (hbB.mono ?_); exact (by repeat (first | with_reducible exact Below.refl _ _ | with_reducible assumption | with_reducible refine Below.drew ?_ | with_reducible refine below_drewN ?_ _ | with_reducible refine Below.alloc ?_ (by first | omega | (simp; done) | (simp; omega)) _ | with_reducible refine Below.setCell ?_ (by first | omega | (simp; done) | (simp; omega)) _)); (first | exact Nat.le_refl _ | (simp; done) | exact stA.size | exact stC.size | exact stD.size | exact stE.size | exact stZ.size))) | (go_at_call 26; with_reducible refine (HPT.out _ ?_).mono ?_; (exact (by repeat (first | with_reducible exact Below.refl _ _ | with_reducible assumption | with_reducible refine Below.drew ?_ | with_reducible refine below_drewN ?_ _ | with_reducible refine Below.alloc ?_ (by first | omega | (simp; done) | (simp; omega)) _ | with_reducible refine Below.setCell ?_ (by first | omega | (simp; done) | (simp; omega)) _))); rintro e wE ⟨rfl, hbE⟩; have stE : Below W.heap.size W wE := (by refine Below.trans ?_ (hbE.mono ?_); exact (by repeat (first | with_reducible exact Below.refl _ _ | with_reducible assumption | with_reducible refine Below.drew ?_ | with_reducible refine below_drewN ?_ _ | with_reducible refine Below.alloc ?_ (by first | omega | (simp; done) | (simp; omega)) _ | with_reducible refine Below.setCell ?_ (by first | omega | (simp; done) | (simp; omega)) _)); (first | exact Nat.le_refl _ | (simp; done) | exact stA.size | exact stB.size | exact stC.size | exact stD.size | exact stZ.size))) | (go_at_call 26; with_reducible refine (HPA.out _ ?_).mono ?_; (exact (by repeat (first | with_reducible exact Below.refl _ _ | with_reducible assumption | with_reducible refine Below.drew ?_ | with_reducible refine below_drewN ?_ _ | with_reducible refine Below.alloc ?_ (by first | omega | (simp; done) | (simp; omega)) _ | with_reducible refine Below.setCell ?_ (by first | omega | (simp; done) | (simp; omega)) _))); rintro e wC ⟨rfl, hbC⟩; have stC : Below W.heap.size W wC := (by refine Below.trans ?_ (hbC.mono ?_); exact (by repeat (first | with_reducible exact Below.refl _ _ | with_reducible assumption | with_reducible refine Below.drew ?_ | with_reducible refine below_drewN ?_ _ | with_reducible refine Below.alloc ?_ (by first | omega | (simp; done) | (simp; omega)) _ | with_reducible refine Below.setCell ?_ (by first | omega | (simp; done) | (simp; omega)) _)); (first | exact Nat.le_refl _ | (simp; done) | exact stA.size | exact stB.size | exact stD.size | exact stE.size | exact stZ.size))) | (go_at_call 30; refine (HPR.out _ ?_).mono ?_; (exact (by repeat (first | with_reducible exact Below.refl _ _ | with_reducible assumption | with_reducible refine Below.drew ?_ | with_reducible refine below_drewN ?_ _ | with_reducible refine Below.alloc ?_ (by first | omega | (simp; done) | (simp; omega)) _ | with_reducible refine Below.setCell ?_ (by first | omega | (simp; done) | (simp; omega)) _))); rintro e wD ⟨rfl, hbD⟩; have stD : Below W.heap.size W wD := (by refine Below.trans ?_ (hbD.mono ?_); exact (by repeat (first | with_reducible exact Below.refl _ _ | with_reducible assumption | with_reducible refine Below.drew ?_ | with_reducible refine below_drewN ?_ _ | with_reducible refine Below.alloc ?_ (by first | omega | (simp; done) | (simp; omega)) _ | with_reducible refine Below.setCell ?_ (by first | omega | (simp; done) | (simp; omega)) _)); (first | exact Nat.le_refl _ | (simp; done) | exact stA.size | exact stB.size | exact stC.size | exact stE.size | exact stZ.size))) | (go_at_call 21; refine (awake26 _).mono ?_; rintro e wZ ⟨rfl, hbZ⟩; have stZ : Below W.heap.size W wZ := (by refine Below.trans ?_ (hbZ.mono ?_); exact (by repeat (first | with_reducible exact Below.refl _ _ | with_reducible assumption | with_reducible refine Below.drew ?_ | with_reducible refine below_drewN ?_ _ | with_reducible refine Below.alloc ?_ (by first | omega | (simp; done) | (simp; omega)) _ | with_reducible refine Below.setCell ?_ (by first | omega | (simp; done) | (simp; omega)) _)); (first | exact Nat.le_refl _ | (simp; done) | exact stA.size | exact stB.size | exact stC.size | exact stD.size | exact stE.size))))
  go_wp2
  go_ret
  exact ⟨rfl, HBW.out.trans (stZ.mono HBW.out.size)⟩
end Go.Proofs.Ythpegmeebhkhbaa
