/- For any two numbers and any picks the statement TopLag returns true (the durable epoch is one or two behind the epoch of now at each step, and neither falls while the power stays), and nothing that was in memory changes. No condition. -/
import Derived.Test.YtecikkjbnkhhkaaGreatP54
namespace Go.Proofs.YtecikkjbnkhhkaaGreat
open _root_.Go.Proofs.Tryz
set_option maxRecDepth 100000
open Go.ChangeShapes Go.WideShapes Go.ChangeAt Go.RowKit
theorem qD2 : Walk 5 Tryz.f5 := by
 intro H enc W base args ds p hval hA; have hA' : DataW.TrodAll enc prog W 0 (fun _ => true) true Tryz.f5.params.toList args.toList ds p := hA; clear hA; rw [params5] at hA' hval; obtain ⟨v0, vs0, d0, ds0, p0, q0, hargs, rfl, rfl, h0, r0⟩ := trodAll_cons hA'; obtain ⟨v1, vs1, d1, ds1, p1, q1, rfl, rfl, rfl, h1, r1⟩ := trodAll_cons r0; obtain ⟨v2, vs2, d2, ds2, p2, q2, rfl, rfl, rfl, h2, r2⟩ := trodAll_cons r1; obtain ⟨rfl, rfl, rfl⟩ := trodAll_nil r2; obtain rfl : args = #[v0, v1, v2] := by cases args; simp_all
 obtain ⟨a0, rfl, rfl, rfl, w0⟩ := open_int underlying3 (hval 0 3 v0 rfl rfl) h0; obtain ⟨a1, rfl, rfl, rfl, w1⟩ := open_int underlying3 (hval 1 3 v1 rfl rfl) h1; obtain ⟨l1, A1, c1, rfl, hA1, hc1, hm1⟩ := qq5 (hval 2 22 v2 rfl rfl) h2; exact qDk a0 a1 l1 A1 c1 W hA1 hc1 hm1
theorem qCq (os : Os) (started : os.Started) (H : Type) (enc : TypeId × Value → H) :
 ReturnsInHanded {} Tryz.checked os 5 .any (Rows.topLagSpec.pre6 enc prog Tryz.f5 Rows.topLagRow.domain false) (Rows.topLagSpec.post enc prog Tryz.f5 false true false false) :=
 qif started qD2 (by kernel_rfl) func5 rfl rfl (by kernel_rfl)
  (fun ds h => match ds, h with | [d1, d2, d3], _ => rfl)
  (ChangeSpec.witness6 (enc := enc) (C := Tryz.checked) false ⟨#[], #[.int .i64 0, .int .i64 0, .slice none 0 0], []⟩ 8 (by kernel_rfl) (by kernel_rfl) (by kernel_rfl) (by kernel_rfl))
theorem topLag_holds : Rows.TopLagSaid :=
 OpenClaim.holds_of_wide 5 Tryz.f5 rfl rfl rfl rfl rfl rfl rfl ⟨rfl, rfl, rfl, rfl, rfl⟩ rfl rfl rfl rfl rfl (by kernel_rfl) func5 qBx
  (of_decide_eq_true (by kernel_rfl)) (by unfold Func.isWrapper; first | (rw [if_pos (by decide +kernel)]; kernel_rfl) | (rw [if_neg (by decide +kernel)]; exact ⟨rfl, rfl⟩))
  (fun os started H enc _ => qCq os started H enc)
end Go.Proofs.YtecikkjbnkhhkaaGreat
