/- For any store and any call the statement IdealGroups returns true (a good group does what its calls do, one behind the other), and nothing that was in memory changes. No condition. -/
import Derived.Test.YtpkdfdkpbpibjaaIGroups
import Derived.Test.YtpkdfdkpbpibjaaOpenCalls
import Derived.Test.YtpkdfdkpbpibjaaLaw
namespace Go.Proofs.Ytpkdfdkpbpibjaa
open Go.ChangeShapes Go.WideShapes Go.ChangeAt Go.RowKit
open Go.ChangeMaps (open_string)
set_option maxRecDepth 100000 in
theorem idealGroups_walk : Walk 9 Try.f9 := by
  intro H enc W base args ds p hval hA
  have hA' : DataW.TrodAll enc Try.prog W 0 (fun _ => true) true Try.f9.params.toList args.toList ds p := hA
  clear hA
  rw [Try.params9] at hA' hval
  obtain ⟨v0, vs0, d0, ds0, p0, q0, hargs, rfl, rfl, h0, r0⟩ := trodAll_cons hA'
  obtain ⟨v1, vs1, d1, ds1, p1, q1, rfl, rfl, rfl, h1, r1⟩ := trodAll_cons r0
  obtain ⟨rfl, rfl, rfl⟩ := trodAll_nil r1
  obtain rfl : args = #[v0, v1] := by cases args; simp_all
  obtain ⟨s0, PA0, pc0, QA0, qc0, rfl, hs0⟩ := open_shelf (hval 0 41 v0 rfl rfl) h0
  obtain ⟨c1, g1, rfl, hc1, he1⟩ := open_call_deep (hval 1 50 v1 rfl rfl) h1
  exact idealGroups_any s0 PA0 pc0 QA0 qc0 c1 g1 W hs0 hc1 he1
set_option maxRecDepth 100000 in
theorem idealGroups_lifted (os : Os) (started : os.Started) (H : Type) (enc : TypeId × Value → H) :
    ReturnsInHanded {} Try.checked os 9 .any (Rows.idealGroupsSpec.pre6 enc Try.prog Try.f9 Rows.idealGroupsRow.domain false) (Rows.idealGroupsSpec.post enc Try.prog Try.f9 false true false false) :=
  lifted_of_walk started idealGroups_walk (by kernel_rfl) Try.func9 rfl rfl (by kernel_rfl)
    (fun ds h => match ds, h with | [d1, d2], _ => rfl)
    (ChangeSpec.witness6 (enc := enc) (C := Try.checked) false ⟨#[], #[.agg #[.slice none 0 0, .slice none 0 0], .agg #[.int .i64 0, .string ByteArray.empty, .string ByteArray.empty, .string ByteArray.empty, .slice none 0 0]], []⟩ 8 (by kernel_rfl) (by kernel_rfl) (by kernel_rfl) (by kernel_rfl))
theorem idealGroups_holds : Rows.IdealGroupsSaid :=
  OpenClaim.holds_of_wide 9 Try.f9 rfl rfl rfl rfl rfl rfl rfl ⟨rfl, rfl, rfl, rfl, rfl⟩ rfl rfl rfl rfl rfl (by kernel_rfl) Try.func9 (by kernel_rfl)
    (of_decide_eq_true (by kernel_rfl)) (by unfold Func.isWrapper; first | (rw [if_pos (by decide +kernel)]; kernel_rfl) | (rw [if_neg (by decide +kernel)]; exact ⟨rfl, rfl⟩))
    (fun os started H enc _ => idealGroups_lifted os started H enc)
end Go.Proofs.Ytpkdfdkpbpibjaa
