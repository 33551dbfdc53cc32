/- For any acts and any key the statement OrderLast returns true (a key has the link that was set last, if it was not dropped since), and nothing that was in memory changes. No condition. -/
import Derived.Test.YthadifbbepcdiaaOLast
import Derived.Test.YthadifbbepcdiaaOOpen
import Derived.Test.YthadifbbepcdiaaLaw
namespace Go.Proofs.Ythadifbbepcdiaa
open Go.ChangeShapes Go.WideShapes Go.ChangeAt Go.RowKit
open Go.ChangeMaps (open_string)
set_option maxRecDepth 100000 in
theorem orderLast_walk : Walk 6 Try.f6 := by
  intro H enc W base args ds p hval hA
  have hA' : DataW.TrodAll enc Try.prog W 0 (fun _ => true) true Try.f6.params.toList args.toList ds p := hA
  clear hA
  rw [Try.params6] at hA' hval
  obtain ⟨v0, vs0, d0, ds0, p0, q0, hargs, rfl, rfl, h0, r0⟩ := trodAll_cons hA'
  obtain ⟨v1, vs1, d1, ds1, p1, q1, rfl, rfl, rfl, h1, r1⟩ := trodAll_cons r0
  obtain ⟨rfl, rfl, rfl⟩ := trodAll_nil r1
  obtain rfl : args = #[v0, v1] := by cases args; simp_all
  obtain ⟨l0, A0, c0, rfl, hA0⟩ := open_acts (hval 0 22 v0 rfl rfl) h0
  obtain ⟨a1, rfl, rfl, rfl, w1⟩ := open_string Try.underlying9 (hval 1 9 v1 rfl rfl) h1
  exact orderLast_any l0 A0 c0 a1 W hA0
set_option maxRecDepth 100000 in
theorem orderLast_lifted (os : Os) (started : os.Started) (H : Type) (enc : TypeId × Value → H) :
    ReturnsInHanded {} Try.checked os 6 .any (Rows.orderLastSpec.pre6 enc Try.prog Try.f6 Rows.orderLastRow.domain false) (Rows.orderLastSpec.post enc Try.prog Try.f6 false true false false) :=
  lifted_of_walk started orderLast_walk (by kernel_rfl) Try.func6 rfl rfl (by kernel_rfl)
    (fun ds h => match ds, h with | [d1, d2], _ => rfl)
    (ChangeSpec.witness6 (enc := enc) (C := Try.checked) false ⟨#[], #[.slice none 0 0, .string ByteArray.empty], []⟩ 8 (by kernel_rfl) (by kernel_rfl) (by kernel_rfl) (by kernel_rfl))
theorem orderLast_holds : Rows.OrderLastSaid :=
  OpenClaim.holds_of_wide 6 Try.f6 rfl rfl rfl rfl rfl rfl rfl ⟨rfl, rfl, rfl, rfl, rfl⟩ rfl rfl rfl rfl rfl (by kernel_rfl) Try.func6 (by kernel_rfl)
    (of_decide_eq_true (by kernel_rfl)) (by unfold Func.isWrapper; first | (rw [if_pos (by decide +kernel)]; kernel_rfl) | (rw [if_neg (by decide +kernel)]; exact ⟨rfl, rfl⟩))
    (fun os started H enc _ => orderLast_lifted os started H enc)
end Go.Proofs.Ythadifbbepcdiaa
