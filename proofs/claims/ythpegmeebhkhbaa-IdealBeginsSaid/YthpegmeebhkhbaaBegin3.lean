/- fuseelaw0.SameFrame at two first frames. -/
import Derived.Test.YthpegmeebhkhbaaBegin2
import Derived.Test.YthpegmeebhkhbaaSameA
namespace Go.Proofs.Ythpegmeebhkhbaa
open Go.RowKit

set_option maxRecDepth 100000 in
theorem same_bytes_nil (w : World) : Calls Try.prog 64 #[.slice none 0 0, .slice none 0 0] w fun e w' => e = .returned (.bool true) ∧ w = w' := by
  have hcv : ∀ W : World, (convert 68 9 (.slice none 0 0)).run Try.prog W = .ok (.string ByteArray.empty) W := fun W => by kernel_rfl
  have e1 : (ByteArray.empty.toList == ByteArray.empty.toList) = true := by simp
  go_enter Try.func64, Try.ntmps64
  go_wp2_with fail
  go_ret
  exact ⟨rfl, rfl⟩
theorem same_parts_nil (w : World) : Calls Try.prog 65 #[.slice none 0 0, .slice none 0 0] w fun e w' => e = .returned (.bool true) ∧ w = w' := by
  go_enter Try.func65, Try.ntmps65
  go_wp2_with fail
  go_loop [5] (fun vi => vi = .int .i64 0) (fun _ => 0)
  case atStart => rfl
  case round =>
    subst hrel
    go_wp2_with fail
    go_ret
    exact ⟨rfl, rfl⟩
set_option maxHeartbeats 4000000 in
set_option maxRecDepth 100000 in
theorem same_frame (kind : Int) (key val to' : ByteArray) (g h : List Call0) (A : Option Addr) (c : Nat) (B : Option Addr) (d : Nat) (w : World) (hA : Arr Call0.enc 5 w w.heap.size A g) (hB : Arr Call0.enc 5 w w.heap.size B h) (hc : g.length ≤ c) (hm : c ≤ 9223372036854775807)
    (hlen : g.length = h.length) (hsim : ∀ i (h1 : i < g.length) (h2 : i < h.length), CSim g[i] h[i]) :
    Calls Try.prog 39 #[.agg #[.int .i64 kind, .string key, .string val, .string to', .slice A g.length c, .int .i64 0, .int .u64 0, .string ByteArray.empty, .bool false, .int .i64 0, .bool false, .string ByteArray.empty, .int .u64 0, .int .u64 0, .int .i64 0, .int .i64 0, .int .i64 (-1), .int .i64 0, .int .i64 0, .slice none 0 0, .int .i64 0, .slice none 0 0, .int .i64 0, .bool false, .string ByteArray.empty, .slice none 0 0, .slice none 0 0, .int .u64 0], .agg #[.int .i64 kind, .string key, .string val, .string to', .slice B h.length d, .int .i64 0, .int .u64 0, .string ByteArray.empty, .bool false, .int .i64 0, .bool false, .string ByteArray.empty, .int .u64 0, .int .u64 0, .int .i64 0, .int .i64 0, .int .i64 (-1), .int .i64 0, .int .i64 0, .slice none 0 0, .int .i64 0, .slice none 0 0, .int .i64 0, .bool false, .string ByteArray.empty, .slice none 0 0, .slice none 0 0, .int .u64 0]] w fun e w' => e = .returned (.bool true) ∧ Below w.heap.size w w' := by
  have HA := hid hA
  have HB := hid hB
  have HS := hid hsim
  have HL := hid hlen
  have e1 : (ByteArray.empty.toList == ByteArray.empty.toList) = true := by simp
  clear hA hB hsim hlen
  go_enter Try.func39, Try.ntmps39
  go_wp2_with fail
  refine (same_bytes_nil _).mono ?_
  rintro e w' ⟨rfl, rfl⟩
  go_wp2_with fail
  refine (same_parts_nil _).mono ?_
  rintro e w' ⟨rfl, rfl⟩
  go_wp2_with fail
  refine (same_ans (ans0 0) none 0 none 0 none 0 none 0 _ Arr.nil Arr.nil Arr.nil Arr.nil (by simp [ans0]) (by omega) (by simp [ans0]) (by omega) (by simp [ans0]) (by omega) (by simp [ans0]) (by omega)).mono ?_
  rintro e w1 ⟨rfl, hb1⟩
  have hz := hb1.size
  simp only [World.size_alloc] at hz
  have x0 := (hb1.cell (p := ⟨w.heap.size, 0, none⟩) (by first | (simp; done) | (simp; omega))).trans (show _ = some (Value.int .i64 kind) from (by simp [go_sem]))
  have x1 := (hb1.cell (p := ⟨w.heap.size, 1, none⟩) (by first | (simp; done) | (simp; omega))).trans (show _ = some (Value.string key) from (by simp [go_sem]))
  have x2 := (hb1.cell (p := ⟨w.heap.size, 2, none⟩) (by first | (simp; done) | (simp; omega))).trans (show _ = some (Value.string val) from (by simp [go_sem]))
  have x3 := (hb1.cell (p := ⟨w.heap.size, 3, none⟩) (by first | (simp; done) | (simp; omega))).trans (show _ = some (Value.string to') from (by simp [go_sem]))
  have x4 := (hb1.cell (p := ⟨w.heap.size, 4, none⟩) (by first | (simp; done) | (simp; omega))).trans (show _ = some (Value.slice A g.length c) from (by simp [go_sem]))
  have y0 := (hb1.cell (p := ⟨w.heap.size + 1, 0, none⟩) (by first | (simp; done) | (simp; omega))).trans (show _ = some (Value.int .i64 kind) from (by simp [go_sem]))
  have y1 := (hb1.cell (p := ⟨w.heap.size + 1, 1, none⟩) (by first | (simp; done) | (simp; omega))).trans (show _ = some (Value.string key) from (by simp [go_sem]))
  have y2 := (hb1.cell (p := ⟨w.heap.size + 1, 2, none⟩) (by first | (simp; done) | (simp; omega))).trans (show _ = some (Value.string val) from (by simp [go_sem]))
  have y3 := (hb1.cell (p := ⟨w.heap.size + 1, 3, none⟩) (by first | (simp; done) | (simp; omega))).trans (show _ = some (Value.string to') from (by simp [go_sem]))
  have y4 := (hb1.cell (p := ⟨w.heap.size + 1, 4, none⟩) (by first | (simp; done) | (simp; omega))).trans (show _ = some (Value.slice B h.length d) from (by simp [go_sem]))
  have bw1 : Below w.heap.size w w1 := Below.trans (by repeat (first | exact Below.refl _ _ | assumption | refine Below.drew ?_ | refine below_drewN ?_ _ | refine Below.alloc ?_ (by first | omega | (simp; done) | (simp; omega)) _ | refine Below.setCell ?_ (by first | omega | (simp; done) | (simp; omega)) _)) (hb1.mono (show w.heap.size ≤ _ from (by first | omega | (simp; done) | (simp; omega))))
  have hl1 : w.heap.size < w1.heap.size := by omega
  have hl2 : w.heap.size + 1 < w1.heap.size := by omega
  clear hb1
  go_wp2_with fail
  refine (same_call kind key val to' g h A c B d _ ((HA.out.below bw1).more bw1.size) ((HB.out.below bw1).more bw1.size) hc hm HL.out HS.out).mono ?_
  rintro e w2 ⟨rfl, hb2⟩
  go_wp2
  go_ret
  exact ⟨rfl, bw1.trans (hb2.mono bw1.size)⟩
end Go.Proofs.Ythpegmeebhkhbaa
