/- For any list of effects, any number and any store the statement AuditEffects returns true (whether groups are whole, and a store is that of the effects up to an epoch, is the reference's word), and nothing that was in memory changes. No condition. -/
import Derived.Test.YthpegmeebhkhbaaAEffects
import Derived.Test.YthpegmeebhkhbaaOpenEffs
import Derived.Test.YthpegmeebhkhbaaLaw
namespace Go.Proofs.Ythpegmeebhkhbaa
open Go.ChangeShapes Go.WideShapes Go.ChangeAt Go.RowKit
open Go.ChangeMaps (open_string)
set_option maxRecDepth 100000 in
theorem auditEffects_walk : Walk 7 Try.f7 := by
  intro H enc W base args ds p hval hA
  have hA' : DataW.TrodAll enc Try.prog W 0 (fun _ => true) true Try.f7.params.toList args.toList ds p := hA
  clear hA
  rw [Try.params7] at hA' hval
  obtain ⟨v0, vs0, d0, ds0, p0, q0, hargs, rfl, rfl, h0, r0⟩ := trodAll_cons hA'
  obtain ⟨v1, vs1, d1, ds1, p1, q1, rfl, rfl, rfl, h1, r1⟩ := trodAll_cons r0
  obtain ⟨v2, vs2, d2, ds2, p2, q2, rfl, rfl, rfl, h2, r2⟩ := trodAll_cons r1
  obtain ⟨rfl, rfl, rfl⟩ := trodAll_nil r2
  obtain rfl : args = #[v0, v1, v2] := by cases args; simp_all
  obtain ⟨l0, A0, c0, rfl, hA0, hc0, hm0, hw0⟩ := open_effs (hval 0 36 v0 rfl rfl) h0
  obtain ⟨a1, rfl, rfl, rfl, w1⟩ := open_int Try.underlying43 (hval 1 43 v1 rfl rfl) h1
  obtain ⟨s2, PA2, pc2, QA2, qc2, rfl, hs2⟩ := open_shelf (hval 2 41 v2 rfl rfl) h2
  exact auditEffects_any l0 A0 c0 a1 s2 PA2 pc2 QA2 qc2 W hA0 hc0 hm0 hw0 hs2
set_option maxRecDepth 100000 in
theorem auditEffects_lifted (os : Os) (started : os.Started) (H : Type) (enc : TypeId × Value → H) :
    ReturnsInHanded {} Try.checked os 7 .any (Rows.auditEffectsSpec.pre6 enc Try.prog Try.f7 Rows.auditEffectsRow.domain false) (Rows.auditEffectsSpec.post enc Try.prog Try.f7 false true false false) :=
  lifted_of_walk started auditEffects_walk (by kernel_rfl) Try.func7 rfl rfl (by kernel_rfl)
    (fun ds h => match ds, h with | [d1, d2, d3], _ => rfl)
    (ChangeSpec.witness6 (enc := enc) (C := Try.checked) false ⟨#[], #[.slice none 0 0, .int .u64 0, .agg #[.slice none 0 0, .slice none 0 0]], []⟩ 8 (by kernel_rfl) (by kernel_rfl) (by kernel_rfl) (by kernel_rfl))
theorem auditEffects_holds : Rows.AuditEffectsSaid :=
  OpenClaim.holds_of_wide 7 Try.f7 rfl rfl rfl rfl rfl rfl rfl ⟨rfl, rfl, rfl, rfl, rfl⟩ rfl rfl rfl rfl rfl (by kernel_rfl) Try.func7 (by kernel_rfl)
    (of_decide_eq_true (by kernel_rfl)) (by unfold Func.isWrapper; first | (rw [if_pos (by decide +kernel)]; kernel_rfl) | (rw [if_neg (by decide +kernel)]; exact ⟨rfl, rfl⟩))
    (fun os started H enc _ => auditEffects_lifted os started H enc)
end Go.Proofs.Ythpegmeebhkhbaa
