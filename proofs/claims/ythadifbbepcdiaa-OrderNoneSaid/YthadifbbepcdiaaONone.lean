/- Of no order each call says so. -/
import Derived.Test.YthadifbbepcdiaaOPlay
namespace Go.Proofs.Ythadifbbepcdiaa
open Go.RowKit

set_option maxHeartbeats 8000000 in
theorem orderNone_any (x : Link) (level : Int) (w : World) : Calls Try.prog 7 #[.agg #[.string x.key, .int .u64 x.id, .int .u64 x.ver, .int .i64 x.line, .int .i64 x.cls], .int .i64 level] w fun e w' => e = .returned (.bool true) ∧ Below w.heap.size w w' := by
  go_enter Try.func7, Try.ntmps7
  go_wp2_with fail
  refine (right_nil level _ _ _).mono ?_
  rintro e w1 ⟨rfl, hb1⟩
  have hz1 : w.heap.size + 1 ≤ w1.heap.size := by have := hb1.size; simpa using this
  have bw1 : Below w.heap.size w w1 := Below.trans (by repeat (first | exact Below.refl _ _ | assumption | refine Below.drew ?_ | refine below_drewN ?_ _ | refine Below.alloc ?_ (by first | omega | (simp; done) | (simp; omega)) _ | refine Below.setCell ?_ (by first | omega | (simp; done) | (simp; omega)) _)) (hb1.mono (show w.heap.size ≤ _ from (by first | omega | (simp; done) | (simp; omega))))
  have er : rightV none = .tuple #[.agg #[.string ByteArray.empty, .int .u64 0, .int .u64 0, .int .i64 0, .int .i64 0], .bool false] := rfl
  rw [er]
  have x0 : w1.cell? ⟨w.heap.size, 0, none⟩ = some (.string x.key) := by rw [hb1.cell (by simp)]; simp [go_sem]
  have x1 : w1.cell? ⟨w.heap.size, 1, none⟩ = some (.int .u64 x.id) := by rw [hb1.cell (by simp)]; simp [go_sem]
  have x2 : w1.cell? ⟨w.heap.size, 2, none⟩ = some (.int .u64 x.ver) := by rw [hb1.cell (by simp)]; simp [go_sem]
  have x3 : w1.cell? ⟨w.heap.size, 3, none⟩ = some (.int .i64 x.line) := by rw [hb1.cell (by simp)]; simp [go_sem]
  have x4 : w1.cell? ⟨w.heap.size, 4, none⟩ = some (.int .i64 x.cls) := by rw [hb1.cell (by simp)]; simp [go_sem]
  have hlt1 : w.heap.size < w1.heap.size := by omega
  have y0 : ∀ o, (w1.alloc o).cell? ⟨w.heap.size, 0, none⟩ = some (.string x.key) := fun o => (World.cell?_alloc_lt _ _ _ hlt1).trans x0
  have y1 : ∀ o, (w1.alloc o).cell? ⟨w.heap.size, 1, none⟩ = some (.int .u64 x.id) := fun o => (World.cell?_alloc_lt _ _ _ hlt1).trans x1
  have y2 : ∀ o, (w1.alloc o).cell? ⟨w.heap.size, 2, none⟩ = some (.int .u64 x.ver) := fun o => (World.cell?_alloc_lt _ _ _ hlt1).trans x2
  have y3 : ∀ o, (w1.alloc o).cell? ⟨w.heap.size, 3, none⟩ = some (.int .i64 x.line) := fun o => (World.cell?_alloc_lt _ _ _ hlt1).trans x3
  have y4 : ∀ o, (w1.alloc o).cell? ⟨w.heap.size, 4, none⟩ = some (.int .i64 x.cls) := fun o => (World.cell?_alloc_lt _ _ _ hlt1).trans x4
  clear hb1 er
  go_wp2_with fail
  refine (set_nil x _).mono ?_
  rintro e w2 ⟨rfl, hb2⟩
  have bw2 : Below w.heap.size w w2 := Below.trans (b := _) (by repeat (first | exact Below.refl _ _ | assumption | refine Below.drew ?_ | refine below_drewN ?_ _ | refine Below.alloc ?_ (by first | omega | (simp; done) | (simp; omega)) _ | refine Below.setCell ?_ (by first | omega | (simp; done) | (simp; omega)) _)) (hb2.mono (by simp; omega))
  have hz2 : w1.heap.size + 1 ≤ w2.heap.size := by have := hb2.size; simpa using this
  have z0 : w2.cell? ⟨w.heap.size, 0, none⟩ = some (.string x.key) := (hb2.cell (p := ⟨w.heap.size, 0, none⟩) (by simp; omega)).trans (y0 _)
  clear hb2 x0 x1 x2 x3 x4 y0 y1 y2 y3 y4
  go_wp2_with fail
  refine (drop_nil x.key _).mono ?_
  rintro e w3 ⟨rfl, hb3⟩
  have bw3 := bw2.trans (hb3.mono bw2.size)
  go_wp2_with fail
  refine (all_nil _).mono ?_
  rintro e w4 ⟨rfl, rfl⟩
  go_wp2_with fail
  refine (len_nil _).mono ?_
  rintro e w4 ⟨rfl, rfl⟩
  go_wp2_with fail
  refine (awake13 _).mono ?_
  rintro e w4 ⟨rfl, hb4⟩
  go_wp2
  go_ret
  exact ⟨rfl, bw3.trans (hb4.mono bw3.size)⟩
end Go.Proofs.Ythadifbbepcdiaa
