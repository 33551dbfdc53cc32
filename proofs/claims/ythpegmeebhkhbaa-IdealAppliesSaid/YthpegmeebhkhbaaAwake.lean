/- What every program answers that is one. -/
import Derived.Test.YthpegmeebhkhbaaIdl10
namespace Go.Proofs.Ythpegmeebhkhbaa
open Go.RowKit

theorem put_any (k v : ByteArray) (w : World) : Calls Try.prog 49 #[.string k, .string v] w fun e w' => e = .returned (.agg #[.int .i64 2, .string k, .string v, .string ByteArray.empty, .slice none 0 0]) ∧ Below w.heap.size w w' := by
  go_enter Try.func49, Try.ntmps49
  go_wp2
  refine bodyPost_ret (v := .agg #[.int .i64 2, .string k, .string v, .string ByteArray.empty, .slice none 0 0]) (by simp [results, Try.results49, go_sem]; rfl) rfl ⟨rfl, ?_⟩
  exact (by repeat (first | exact Below.refl _ _ | assumption | refine Below.drew ?_ | refine below_drewN ?_ _ | refine Below.alloc ?_ (by first | omega | (simp; done) | (simp; omega)) _ | refine Below.setCell ?_ (by first | omega | (simp; done) | (simp; omega)) _))
def keyB : ByteArray := ⟨#[98]⟩
def val2 : ByteArray := ⟨#[50]⟩
theorem good_b2 : goodI ⟨2, ⟨#[98]⟩, ⟨#[50]⟩, ByteArray.empty, none, 0, 0⟩ [] = 0 := by decide +kernel
theorem good_zero : goodI ⟨0, ByteArray.empty, ByteArray.empty, ByteArray.empty, none, 0, 0⟩ [] = 1 := by decide +kernel
theorem get_b2 : getD' [⟨⟨#[98]⟩, ⟨#[50]⟩⟩] ⟨#[98]⟩ = (⟨#[50]⟩, true) := by decide +kernel
theorem set_b2 : setP [] ⟨#[98]⟩ ⟨#[50]⟩ = [⟨⟨#[98]⟩, ⟨#[50]⟩⟩] := by simp [setP, ins]
theorem call_put (args : Array Value) (W : World) : (callFunc 84 args).run Try.prog W = .ok (.enter 84 args) W := by
  simp [callFunc, Try.func84, Try.f84, mark]
set_option maxHeartbeats 2000000 in
theorem awake15 (w : World) : Calls Try.prog 32 #[] w fun e w' => e = .returned (.bool true) ∧ Below w.heap.size w w' := by
  go_enter Try.func32, Try.ntmps32
  go_wp2_with fail
  refine (put_any ⟨#[98]⟩ ⟨#[50]⟩ _).mono ?_
  rintro e w1 ⟨rfl, hb1⟩
  go_wp2_with fail
  refine (apply_plain ⟨[], []⟩ none 0 none 0 ⟨2, ⟨#[98]⟩, ⟨#[50]⟩, ByteArray.empty, none, 0, 0⟩ [] _ ⟨Arr.nil, Nat.le_refl _, by simp, Arr.nil, Nat.le_refl _, by simp⟩ (by simp) (by simp) ⟨Arr.nil, rfl, by simp, by simp⟩ good_b2 (by decide) 1 84 (tableD_at (by simp)) ⟨[⟨⟨#[98]⟩, ⟨#[50]⟩⟩], []⟩ (ans0 0) ?_ ?_).mono ?_
  · exact call_put
  · intro K W p q hsa hK
    have := do_put K p q ⟨[], []⟩ (ans0 0) ⟨2, ⟨#[98]⟩, ⟨#[50]⟩, ByteArray.empty, none, 0, 0⟩ W hsa hK (by simp)
    rw [set_b2] at this
    exact this
  rintro e w2 ⟨PA, pc, QA, qc, RA, rc, HA, hc, rfl, hsh, hra, hha, hb2⟩
  have hz2 := hb2.size
  have HSH := hid hsh.pairs
  have hlen := hsh.pairs.len
  have hmax := hsh.pairs.max
  clear hsh hra hha
  go_wp2_with fail
  refine (get_any ⟨[⟨⟨#[98]⟩, ⟨#[50]⟩⟩], []⟩ PA pc QA 0 qc ⟨#[98]⟩ _ ?_ hlen hmax).mono ?_
  · exact ((HSH.out.arr Pair.enc_len).below (by repeat (first | exact Below.refl _ _ | assumption | refine Below.drew ?_ | refine below_drewN ?_ _ | refine Below.alloc ?_ (by first | omega | (simp; done) | (simp; omega)) _ | refine Below.setCell ?_ (by first | omega | (simp; done) | (simp; omega)) _))).more (by first | omega | (simp; done) | (simp; omega))
  rintro e w3 ⟨rfl, hb3⟩
  rw [get_b2]
  have hz3 := hb3.size
  simp only [World.size_alloc] at hz3
  have a0 : w3.cell? ⟨w2.heap.size + 1, 0, none⟩ = some (.int .i64 0) := by rw [hb3.cell (by simp)]; simp [go_sem, ans0]
  have a1 : w3.cell? ⟨w2.heap.size + 1, 1, none⟩ = some (.bool false) := by rw [hb3.cell (by simp)]; simp [go_sem, ans0]
  have bw3 : Below w2.heap.size w2 w3 := Below.trans (by repeat (first | exact Below.refl _ _ | assumption | refine Below.drew ?_ | refine below_drewN ?_ _ | refine Below.alloc ?_ (by first | omega | (simp; done) | (simp; omega)) _ | refine Below.setCell ?_ (by first | omega | (simp; done) | (simp; omega)) _)) (hb3.mono (show w2.heap.size ≤ _ from (by first | omega | (simp; done) | (simp; omega))))
  clear hb3
  go_wp2_with fail
  refine (good_any ⟨0, ByteArray.empty, ByteArray.empty, ByteArray.empty, none, 0, 0⟩ [] _ ⟨Arr.nil, rfl, by simp, by simp⟩).mono ?_
  rintro e w4 ⟨rfl, hb4⟩
  rw [good_zero]
  go_wp2_with fail
  go_ret
  have b12 : Below w.heap.size w w2 := (hb1.mono (Nat.le_refl _)).trans (hb2.mono hb1.size)
  have b23 := b12.trans (bw3.mono b12.size)
  exact ⟨rfl, b23.trans (hb4.mono b23.size)⟩
end Go.Proofs.Ythpegmeebhkhbaa
