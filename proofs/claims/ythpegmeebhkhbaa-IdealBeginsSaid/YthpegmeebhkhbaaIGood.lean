/- The statement IdealGood: the walk. -/
import Derived.Test.YthpegmeebhkhbaaLarge
namespace Go.Proofs.Ythpegmeebhkhbaa
open Go.RowKit

/-- the call's box, a block of the call's own, as it stands -/
def boxed (n : Nat) (c : Call0) (w : World) : Prop :=
  w.cell? ⟨n, 0, none⟩ = some (.int .i64 c.kind) ∧ w.cell? ⟨n, 1, none⟩ = some (.string c.key) ∧ w.cell? ⟨n, 2, none⟩ = some (.string c.val) ∧ w.cell? ⟨n, 3, none⟩ = some (.string c.to) ∧ w.cell? ⟨n, 4, none⟩ = some (.slice c.gA c.gn c.gc)
theorem boxed.below {n : Nat} {c : Call0} {w w' : World} (h : boxed n c w) (hb : Below w.heap.size w w') (hn : n < w.heap.size) : boxed n c w' :=
  ⟨(hb.cell (p := ⟨n, 0, none⟩) hn).trans h.1, (hb.cell (p := ⟨n, 1, none⟩) hn).trans h.2.1, (hb.cell (p := ⟨n, 2, none⟩) hn).trans h.2.2.1, (hb.cell (p := ⟨n, 3, none⟩) hn).trans h.2.2.2.1, (hb.cell (p := ⟨n, 4, none⟩) hn).trans h.2.2.2.2⟩
theorem boxed.new (w : World) (c : Call0) : boxed w.heap.size c (w.alloc (.cells #[.int .i64 c.kind, .string c.key, .string c.val, .string c.to, .slice c.gA c.gn c.gc] 50)) := by
  simp [boxed, go_sem]
theorem keepC {w W W' : World} {c : Call0} (hb : Below W.heap.size W W') (h : Below w.heap.size w W ∧ w.heap.size < W.heap.size ∧ W.cell? ⟨w.heap.size, 0, none⟩ = some (.int .i64 c.kind) ∧ W.cell? ⟨w.heap.size, 1, none⟩ = some (.string c.key) ∧ W.cell? ⟨w.heap.size, 2, none⟩ = some (.string c.val) ∧ W.cell? ⟨w.heap.size, 3, none⟩ = some (.string c.to) ∧ W.cell? ⟨w.heap.size, 4, none⟩ = some (.slice c.gA c.gn c.gc)) :
    Below w.heap.size w W' ∧ w.heap.size < W'.heap.size ∧ W'.cell? ⟨w.heap.size, 0, none⟩ = some (.int .i64 c.kind) ∧ W'.cell? ⟨w.heap.size, 1, none⟩ = some (.string c.key) ∧ W'.cell? ⟨w.heap.size, 2, none⟩ = some (.string c.val) ∧ W'.cell? ⟨w.heap.size, 3, none⟩ = some (.string c.to) ∧ W'.cell? ⟨w.heap.size, 4, none⟩ = some (.slice c.gA c.gn c.gc) :=
  ⟨h.1.trans (hb.mono h.1.size), Nat.lt_of_lt_of_le h.2.1 hb.size, boxed.below (c := c) h.2.2 hb h.2.1⟩
set_option maxHeartbeats 2000000 in
theorem idealGood_any (c : Call0) (g : List Call0) (w : World) (hc : CallIn w w.heap.size c g) :
    Calls Try.prog 8 #[.agg #[.int .i64 c.kind, .string c.key, .string c.val, .string c.to, .slice c.gA c.gn c.gc]] w fun e w' => e = .returned (.bool true) ∧ Below w.heap.size w w' := by
  have HC := hid hc
  clear hc
  have eq : (goodI c g == goodI c g) = true := by simp
  have eq2 : decide (goodI c g = goodI c g) = true := by simp
  go_enter Try.func8, Try.ntmps8
  go_wp2_with fail
  refine (large_any ⟨[], []⟩ none 0 none 0 c g _ ⟨Arr.nil, Nat.le_refl _, by simp, Arr.nil, Nat.le_refl _, by simp⟩ ?_).mono ?_
  · exact (HC.out.below (by repeat (first | exact Below.refl _ _ | assumption | refine Below.drew ?_ | refine below_drewN ?_ _ | refine Below.alloc ?_ (by first | omega | (simp; done) | (simp; omega)) _ | refine Below.setCell ?_ (by first | omega | (simp; done) | (simp; omega)) _))).more (by first | omega | (simp; done) | (simp; omega))
  rintro e w1 ⟨r, rfl, hb1, -⟩
  have hS : Below w.heap.size w w1 ∧ w.heap.size < w1.heap.size ∧ boxed w.heap.size c w1 :=
    ⟨Below.trans (by repeat (first | exact Below.refl _ _ | assumption | refine Below.drew ?_ | refine below_drewN ?_ _ | refine Below.alloc ?_ (by first | omega | (simp; done) | (simp; omega)) _ | refine Below.setCell ?_ (by first | omega | (simp; done) | (simp; omega)) _)) (hb1.mono (show w.heap.size ≤ _ from (by first | omega | (simp; done) | (simp; omega)))), by have := hb1.size; simp at this; omega, (boxed.new w c).below hb1 (by simp)⟩
  cases r with
  | true =>
    go_wp2_with fail
    refine (awake15 _).mono ?_
    rintro e w2 ⟨rfl, hb2⟩
    go_wp2
    go_ret
    exact ⟨rfl, hS.1.trans (hb2.mono hS.1.size)⟩
  | false =>
    obtain ⟨hS1, hS2, k0, k1, k2, k3, k4⟩ := hS
    go_wp2_with fail
    go_region_held3 (fun W => Below w.heap.size w W ∧ w.heap.size < W.heap.size ∧ W.cell? ⟨w.heap.size, 0, none⟩ = some (.int .i64 c.kind) ∧ W.cell? ⟨w.heap.size, 1, none⟩ = some (.string c.key) ∧ W.cell? ⟨w.heap.size, 2, none⟩ = some (.string c.val) ∧ W.cell? ⟨w.heap.size, 3, none⟩ = some (.string c.to) ∧ W.cell? ⟨w.heap.size, 4, none⟩ = some (.slice c.gA c.gn c.gc))
      (first | exact keepC hb4 (by assumption) | exact keepC hb3 (by assumption) | exact keepC hb2 (by assumption) | exact ⟨hS1.drew, hS2, k0, k1, k2, k3, k4⟩ | assumption | go_keep)
      (first | (go_at_call 34; refine (good_any c g _ ?_).mono ?_; (exact (HC.out.below (And.left (by assumption))).more (Nat.le_of_lt (And.left (And.right (by assumption))))); rintro e w2 ⟨rfl, hb2⟩) | (go_at_call 35; refine (refgood_any c g _ ?_).mono ?_; (exact (HC.out.below (And.left (by assumption))).more (Nat.le_of_lt (And.left (And.right (by assumption))))); rintro e w3 ⟨rfl, hb3⟩) | (go_at_call 33; refine (num_any _ _).mono ?_; rintro e w' ⟨rfl, rfl⟩) | (go_at_call 32; refine (awake15 _).mono ?_; rintro e w4 ⟨rfl, hb4⟩))
    have hfin : Below w.heap.size w w4 := And.left (by assumption)
    go_wp2
    go_ret
    exact ⟨rfl, hfin⟩
end Go.Proofs.Ythpegmeebhkhbaa
