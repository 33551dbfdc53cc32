/- For any number and any picks the statement TopQuiet returns true (the clock line is not stored to while nobody syncs and the keeper stands still), and nothing that was in memory changes. No condition. -/
import Derived.Test.YtecikkjbnkhhkaaGreatP54
namespace Go.Proofs.YtecikkjbnkhhkaaGreat
open _root_.Go.Proofs.Tryz
set_option maxRecDepth 100000
open Go.ChangeShapes Go.WideShapes Go.ChangeAt Go.RowKit
theorem qjo : Walk 6 Tryz.f6 := by
 intro H enc W base args ds p hval hA; have hA' : DataW.TrodAll enc prog W 0 (fun _ => true) true Tryz.f6.params.toList args.toList ds p := hA; clear hA; rw [params6] at hA' hval; obtain ⟨v0, vs0, d0, ds0, p0, q0, hargs, rfl, rfl, h0, r0⟩ := trodAll_cons hA'; obtain ⟨v1, vs1, d1, ds1, p1, q1, rfl, rfl, rfl, h1, r1⟩ := trodAll_cons r0; obtain ⟨rfl, rfl, rfl⟩ := trodAll_nil r1; obtain rfl : args = #[v0, v1] := by cases args; simp_all
 obtain ⟨a0, rfl, rfl, rfl, w0⟩ := open_int underlying3 (hval 0 3 v0 rfl rfl) h0; obtain ⟨l1, A1, c1, rfl, hA1, hc1, hm1⟩ := qq5 (hval 1 22 v1 rfl rfl) h1; exact qkw a0 l1 A1 c1 W hA1 hc1 hm1
theorem qh2 (os : Os) (started : os.Started) (H : Type) (enc : TypeId × Value → H) :
 ReturnsInHanded {} Tryz.checked os 6 .any (Rows.topQuietSpec.pre6 enc prog Tryz.f6 Rows.topQuietRow.domain false) (Rows.topQuietSpec.post enc prog Tryz.f6 false true false false) :=
 qif started qjo (by kernel_rfl) func6 rfl rfl (by kernel_rfl)
  (fun ds h => match ds, h with | [d1, d2], _ => rfl)
  (ChangeSpec.witness6 (enc := enc) (C := Tryz.checked) false ⟨#[], #[.int .i64 0, .slice none 0 0], []⟩ 8 (by kernel_rfl) (by kernel_rfl) (by kernel_rfl) (by kernel_rfl))
theorem topQuiet_holds : Rows.TopQuietSaid :=
 OpenClaim.holds_of_wide 6 Tryz.f6 rfl rfl rfl rfl rfl rfl rfl ⟨rfl, rfl, rfl, rfl, rfl⟩ rfl rfl rfl rfl rfl (by kernel_rfl) func6 qBx
  (of_decide_eq_true (by kernel_rfl)) (by unfold Func.isWrapper; first | (rw [if_pos (by decide +kernel)]; kernel_rfl) | (rw [if_neg (by decide +kernel)]; exact ⟨rfl, rfl⟩))
  (fun os started H enc _ => qh2 os started H enc)
end Go.Proofs.YtecikkjbnkhhkaaGreat
