/- For any list of calls the statement IdealRises returns true (a store that may be stays one, whatever good calls are done), and nothing that was in memory changes. No condition. -/
import Derived.Test.YtpkdfdkpbpibjaaIRises
import Derived.Test.YtpkdfdkpbpibjaaOpenCalls
import Derived.Test.YtpkdfdkpbpibjaaLaw
namespace Go.Proofs.Ytpkdfdkpbpibjaa
open Go.ChangeShapes Go.WideShapes Go.ChangeAt Go.RowKit
open Go.ChangeMaps (open_string)
set_option maxRecDepth 100000 in
theorem idealRises_walk : Walk 13 Try.f13 := by
  intro H enc W base args ds p hval hA
  have hA' : DataW.TrodAll enc Try.prog W 0 (fun _ => true) true Try.f13.params.toList args.toList ds p := hA
  clear hA
  rw [Try.params13] at hA' hval
  obtain ⟨v0, vs0, d0, ds0, p0, q0, hargs, rfl, rfl, h0, r0⟩ := trodAll_cons hA'
  obtain ⟨rfl, rfl, rfl⟩ := trodAll_nil r0
  obtain rfl : args = #[v0] := by cases args; simp_all
  obtain ⟨l0, g0, A0, c0, rfl, hs0⟩ := open_calls (hval 0 48 v0 rfl rfl) h0
  exact idealRises_any l0 g0 A0 c0 W hs0
set_option maxRecDepth 100000 in
theorem idealRises_lifted (os : Os) (started : os.Started) (H : Type) (enc : TypeId × Value → H) :
    ReturnsInHanded {} Try.checked os 13 .any (Rows.idealRisesSpec.pre6 enc Try.prog Try.f13 Rows.idealRisesRow.domain false) (Rows.idealRisesSpec.post enc Try.prog Try.f13 false true false false) :=
  lifted_of_walk started idealRises_walk (by kernel_rfl) Try.func13 rfl rfl (by kernel_rfl)
    (fun ds h => match ds, h with | [d1], _ => rfl)
    (ChangeSpec.witness6 (enc := enc) (C := Try.checked) false ⟨#[], #[.slice none 0 0], []⟩ 8 (by kernel_rfl) (by kernel_rfl) (by kernel_rfl) (by kernel_rfl))
theorem idealRises_holds : Rows.IdealRisesSaid :=
  OpenClaim.holds_of_wide 13 Try.f13 rfl rfl rfl rfl rfl rfl rfl ⟨rfl, rfl, rfl, rfl, rfl⟩ rfl rfl rfl rfl rfl (by kernel_rfl) Try.func13 (by kernel_rfl)
    (of_decide_eq_true (by kernel_rfl)) (by unfold Func.isWrapper; first | (rw [if_pos (by decide +kernel)]; kernel_rfl) | (rw [if_neg (by decide +kernel)]; exact ⟨rfl, rfl⟩))
    (fun os started H enc _ => idealRises_lifted os started H enc)
end Go.Proofs.Ytpkdfdkpbpibjaa
