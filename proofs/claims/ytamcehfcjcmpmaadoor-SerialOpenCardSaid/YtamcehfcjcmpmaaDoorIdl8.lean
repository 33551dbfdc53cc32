/- The table of doings, and the doings one by one. -/
import Derived.Test.YtamcehfcjcmpmaaDoorIdl7
import Derived.Test.YtamcehfcjcmpmaaDoorMaps
namespace Go.Proofs.YtamcehfcjcmpmaaDoor
open Go.RowKit

def tableD : Array MapEntry := #[⟨.int .i64 1, .func (.func 38) #[] #[], 0⟩, ⟨.int .i64 2, .func (.func 40) #[] #[], 1⟩, ⟨.int .i64 3, .func (.func 42) #[] #[], 2⟩, ⟨.int .i64 4, .func (.func 44) #[] #[], 3⟩,
  ⟨.int .i64 5, .func (.func 45) #[] #[], 4⟩, ⟨.int .i64 6, .func (.func 47) #[] #[], 5⟩, ⟨.int .i64 8, .func (.func 48) #[] #[], 6⟩]
set_option maxHeartbeats 2000000 in
theorem doings_any (w : World) : Calls Tryd.prog 27 #[] w fun e w' => ∃ b, e = .returned (.map (some b)) ∧ w.heap.size ≤ b ∧ w'.heap[b]? = some (.map tableD 7) ∧ Below w.heap.size w w' := by
  have h0 : (w.alloc (.map #[] 0)).heap[w.heap.size]? = some (.map #[] 0) := (MapKept.heap_alloc w _).1
  go_enter Tryd.func27, Tryd.ntmps27
  go_wp2_with (refine wpList_makeMap _ rfl _ rfl ?_; refine wpList_insert_new _ rfl _ _ _ _ rfl 3 _ _ _ _ Tryd.underlying66 Tryd.underlying3 rfl _ _ rfl rfl h0 rfl ?_; intro w1 h1 g1; refine wpList_insert_new _ rfl _ _ _ _ rfl 3 _ _ _ _ Tryd.underlying66 Tryd.underlying3 rfl _ _ rfl rfl h1 rfl ?_; intro w2 h2 g2; refine wpList_insert_new _ rfl _ _ _ _ rfl 3 _ _ _ _ Tryd.underlying66 Tryd.underlying3 rfl _ _ rfl rfl h2 rfl ?_; intro w3 h3 g3; refine wpList_insert_new _ rfl _ _ _ _ rfl 3 _ _ _ _ Tryd.underlying66 Tryd.underlying3 rfl _ _ rfl rfl h3 rfl ?_; intro w4 h4 g4; refine wpList_insert_new _ rfl _ _ _ _ rfl 3 _ _ _ _ Tryd.underlying66 Tryd.underlying3 rfl _ _ rfl rfl h4 rfl ?_; intro w5 h5 g5; refine wpList_insert_new _ rfl _ _ _ _ rfl 3 _ _ _ _ Tryd.underlying66 Tryd.underlying3 rfl _ _ rfl rfl h5 rfl ?_; intro w6 h6 g6; refine wpList_insert_new _ rfl _ _ _ _ rfl 3 _ _ _ _ Tryd.underlying66 Tryd.underlying3 rfl _ _ rfl rfl h6 rfl ?_; intro w7 h7 g7)
  go_ret
  refine ⟨_, rfl, Nat.le_refl _, h7, ?_⟩
  have s1 := g1.size
  have s2 := g2.size
  have s3 := g3.size
  have s4 := g4.size
  have s5 := g5.size
  have s6 := g6.size
  rw [World.size_alloc] at s1
  exact (((((((((Below.refl _ w).alloc (Nat.le_refl _) _).grown g1 (by simp) (by simp)).grown g2 (by omega) (by simp)).grown g3 (by omega) (by simp)).grown g4 (by omega) (by simp)).grown g5 (by omega) (by simp)).grown g6 (by omega) (by simp)).grown g7 (by omega) (by simp))

/-- where each kind's doing stands -/
theorem tableD_at {n : Int} {i f : Nat} (h : (n, i, f) ∈ [(1, 0, 38), (2, 1, 40), (3, 2, 42), (4, 3, 44), (5, 4, 45), (6, 5, 47), (8, 6, 48)]) :
    Instr.findNow (.int .i64) (.int .i64 n) tableD.toList 0 = some (some (i, .func (.func f) #[] #[])) := by
  simp only [List.mem_cons, Prod.mk.injEq, List.not_mem_nil, or_false] at h
  rcases h with ⟨rfl, rfl, rfl⟩ | ⟨rfl, rfl, rfl⟩ | ⟨rfl, rfl, rfl⟩ | ⟨rfl, rfl, rfl⟩ | ⟨rfl, rfl, rfl⟩ | ⟨rfl, rfl, rfl⟩ | ⟨rfl, rfl, rfl⟩ <;> rfl
end Go.Proofs.YtamcehfcjcmpmaaDoor
