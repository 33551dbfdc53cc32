/- fuseelaw25.plain: a story of a key, that begins at a time. -/
import Derived.Test.YtamcehfcjcmpmaaDoorOwn3
import Derived.Test.YtamcehfcjcmpmaaDoorSrU
import Derived.Deep.QuietTactic
import Derived.BigQuiet
namespace Go.Proofs.YtamcehfcjcmpmaaDoor
open Go.RowKit

set_option maxHeartbeats 4000000 in
set_option maxRecDepth 100000 in
theorem plain_any (s : Story) (key : ByteArray) (at' : Int) (h0 : 0 ≤ at') (h1 : at' ≤ 1000) (w : World) :
    Calls Tryd.prog 19 #[storyV s, .string key, .int .i64 at'] w fun e w' => Below w.heap.size w w' ∧ ∃ x : Item, PlI key at' x ∧ e = .returned (storyV x.s) := by
  unfold storyV
  have L0 : ∀ W, Calls Tryd.prog 15 #[.int .i64 s.en, .int .i64 12] W fun e w' => e = .returned (.int .i64 (low s.en 12)) ∧ W = w' := fun W => low_any s.en 12 (by decide) (by decide) W
  have L1 : ∀ W, Calls Tryd.prog 15 #[.int .i64 s.c.kind, .int .i64 3] W fun e w' => e = .returned (.int .i64 (low s.c.kind 3)) ∧ W = w' := fun W => low_any s.c.kind 3 (by decide) (by decide) W
  have l0 := low_lo s.en 12 (by decide)
  have l1 := low_hi s.en 12 (by decide)
  have k0 := low_lo s.c.kind 3 (by decide)
  have k1 := low_hi s.c.kind 3 (by decide)
  generalize low s.en 12 = e12 at *
  generalize low s.c.kind 3 = k3 at *
  go_enter Tryd.func19, Tryd.ntmps19
  go_upto_region 2 with (go_at_call 15; refine (L0 _).mono ?_; rintro e wA ⟨rfl, rfl⟩)
  clear L0
  have r0 : ∀ o1 o2 : Obj, o1 = .cells s.enc.toArray 44 (0, 0) → ((w.alloc o1).alloc o2).cell? ⟨w.heap.size, 1, none⟩ = some (.int .i64 s.c.kind) ∧ ((w.alloc o1).alloc o2).cell? ⟨w.heap.size, 3, none⟩ = some (.string s.c.val) ∧ ((w.alloc o1).alloc o2).cell? ⟨w.heap.size, 7, none⟩ = some (.bool s.fd) ∧ ((w.alloc o1).alloc o2).cell? ⟨w.heap.size, 8, none⟩ = some (.string s.vl) := fun o1 o2 ho => by
    subst ho
    obtain ⟨y1, y2, y3, y4, y5, y6, y7, y8, y9, y10, y11, y0, y12, y13⟩ := row_story (w := (w.alloc (.cells s.enc.toArray 44 (0, 0))).alloc o2) (p := w.heap.size) (s := s) ((Below.heap_alloc _ _ _ (by simp)).trans ((heap_alloc_if _ _ _).trans (if_pos rfl)))
    exact ⟨y1, y3, y7, y8⟩
  have HX := fun o2 => r0 _ o2 rfl
  have HHX := hid HX
  clear HX r0
  have e1 : IntKind.i64.wrap (1 + k3) = 1 + k3 := Go.IntWalk.i64_in _ (by omega)
  have e2 : IntKind.i64.wrap (at' + (1 + e12)) = at' + (1 + e12) := Go.IntWalk.i64_in _ (by omega)
  have m1 : (0 : Int) ≤ min (s.c.val.size : Int) 2 := by omega
  have m2 : min (s.c.val.size : Int) 2 ≤ (s.c.val.size : Int) := by omega
  have m3 : (0 : Int) ≤ min (s.vl.size : Int) 2 := by omega
  have m4 : min (s.vl.size : Int) 2 ≤ (s.vl.size : Int) := by omega
  go_region_held3 (fun W' => W'.cell? ⟨w.heap.size, 1, none⟩ = some (.int .i64 s.c.kind) ∧ W'.cell? ⟨w.heap.size, 3, none⟩ = some (.string s.c.val) ∧ W'.cell? ⟨w.heap.size, 7, none⟩ = some (.bool s.fd) ∧ W'.cell? ⟨w.heap.size, 8, none⟩ = some (.string s.vl)) (first | exact HHX.out _ | go_keep) (first | (go_at_call 15; refine (L1 _).mono ?_; rintro e wB ⟨rfl, rfl⟩) | fail)
  all_goals
    clear HHX m1 m2 m3 m4
    go_wp2_with fail
    (try simp only [Exit.inBlock, Exit.then])
    generalize hW : World.drew _ = W
    have bW : Below w.heap.size w W := by rw [← hW]; exact (by repeat (first | exact Below.refl _ _ | assumption | refine Below.drew ?_ | refine below_drewN ?_ _ | refine Below.alloc ?_ (by first | omega | (simp; done) | (simp; omega)) _ | refine Below.setCell ?_ (by first | omega | (simp; done) | (simp; omega)) _))
    have hrow : W.heap[w.heap.size + 1]? = some (.cells (flatI (1 + k3) key (s.c.val.extract 0 (min (s.c.val.size : Int) 2).toNat) 0 s.fd (s.vl.extract 0 (min (s.vl.size : Int) 2).toNat) at' (at' + (1 + e12))).s.enc.toArray 44 (0, 0)) := by rw [← hW]; exact (heap_alloc_if _ _ _).trans (by rw [if_pos (by simp)]; rfl)
    clear hW
    have hv1 : (s.c.val.extract 0 (min (s.c.val.size : Int) 2).toNat).size ≤ 400 := by rw [ByteArray.size_extract]; omega
    generalize s.c.val.extract 0 (min (s.c.val.size : Int) 2).toNat = V1 at *
    generalize s.vl.extract 0 (min (s.vl.size : Int) 2).toNat = V2 at *
    obtain ⟨y, hy, hY⟩ : ∃ y : Item, PlI key at' y ∧ y.s = (flatI (1 + k3) key V1 0 s.fd V2 at' (at' + (1 + e12))).s := ⟨_, ⟨_, _, _, _, _, rfl, by omega, hv1, by omega⟩, rfl⟩
    rw [← hY] at hrow
    obtain ⟨y1, y2, y3, y4, y5, y6, y7, y8, y9, y10, y11, y0, y12, y13⟩ := row_story hrow
    have hl := lt_of_heap hrow
    refine bodyPost_ret (v := storyV y.s) ?_ rfl ⟨bW, y, hy, rfl⟩
    clear hrow
    simp [results, Tryd.results19, go_sem, storyV, y0, y1, y2, y3, y4, y5, y6, y7, y8, y9, y10, y11, y12, y13]
end Go.Proofs.YtamcehfcjcmpmaaDoor
