/- For any acts the statement OrderScript returns true (each call answers as the reference's), and nothing that was in memory changes. No condition. -/
import Derived.Test.YthadifbbepcdiaaOScript
import Derived.Test.YthadifbbepcdiaaOOpen
import Derived.Test.YthadifbbepcdiaaLaw
namespace Go.Proofs.Ythadifbbepcdiaa
open Go.ChangeShapes Go.WideShapes Go.ChangeAt Go.RowKit
open Go.ChangeMaps (open_string)
set_option maxRecDepth 100000 in
theorem orderScript_walk : Walk 4 Try.f4 := by
  intro H enc W base args ds p hval hA
  have hA' : DataW.TrodAll enc Try.prog W 0 (fun _ => true) true Try.f4.params.toList args.toList ds p := hA
  clear hA
  rw [Try.params4] at hA' hval
  obtain ⟨v0, vs0, d0, ds0, p0, q0, hargs, rfl, rfl, h0, r0⟩ := trodAll_cons hA'
  obtain ⟨rfl, rfl, rfl⟩ := trodAll_nil r0
  obtain rfl : args = #[v0] := by cases args; simp_all
  obtain ⟨l0, A0, c0, rfl, hA0⟩ := open_acts (hval 0 22 v0 rfl rfl) h0
  exact orderScript_any l0 A0 c0 W hA0
set_option maxRecDepth 100000 in
theorem orderScript_lifted (os : Os) (started : os.Started) (H : Type) (enc : TypeId × Value → H) :
    ReturnsInHanded {} Try.checked os 4 .any (Rows.orderScriptSpec.pre6 enc Try.prog Try.f4 Rows.orderScriptRow.domain false) (Rows.orderScriptSpec.post enc Try.prog Try.f4 false true false false) :=
  lifted_of_walk started orderScript_walk (by kernel_rfl) Try.func4 rfl rfl (by kernel_rfl)
    (fun ds h => match ds, h with | [d1], _ => rfl)
    (ChangeSpec.witness6 (enc := enc) (C := Try.checked) false ⟨#[], #[.slice none 0 0], []⟩ 8 (by kernel_rfl) (by kernel_rfl) (by kernel_rfl) (by kernel_rfl))
theorem orderScript_holds : Rows.OrderScriptSaid :=
  OpenClaim.holds_of_wide 4 Try.f4 rfl rfl rfl rfl rfl rfl rfl ⟨rfl, rfl, rfl, rfl, rfl⟩ rfl rfl rfl rfl rfl (by kernel_rfl) Try.func4 (by kernel_rfl)
    (of_decide_eq_true (by kernel_rfl)) (by unfold Func.isWrapper; first | (rw [if_pos (by decide +kernel)]; kernel_rfl) | (rw [if_neg (by decide +kernel)]; exact ⟨rfl, rfl⟩))
    (fun os started H enc _ => orderScript_lifted os started H enc)
end Go.Proofs.Ythadifbbepcdiaa
