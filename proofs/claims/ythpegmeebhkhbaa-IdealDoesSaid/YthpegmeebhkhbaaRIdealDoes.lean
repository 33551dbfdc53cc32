/- For any store, any list of effects and any number the statement IdealDoes returns true (what effects do to a store, one by one and all up to an epoch, is the document's), and nothing that was in memory changes. No condition. -/
import Derived.Test.YthpegmeebhkhbaaIDoes
import Derived.Test.YthpegmeebhkhbaaOpenEffs
import Derived.Test.YthpegmeebhkhbaaLaw
namespace Go.Proofs.Ythpegmeebhkhbaa
open Go.ChangeShapes Go.WideShapes Go.ChangeAt Go.RowKit
open Go.ChangeMaps (open_string)
set_option maxRecDepth 100000 in
theorem idealDoes_walk : Walk 16 Try.f16 := by
  intro H enc W base args ds p hval hA
  have hA' : DataW.TrodAll enc Try.prog W 0 (fun _ => true) true Try.f16.params.toList args.toList ds p := hA
  clear hA
  rw [Try.params16] at hA' hval
  obtain ⟨v0, vs0, d0, ds0, p0, q0, hargs, rfl, rfl, h0, r0⟩ := trodAll_cons hA'
  obtain ⟨v1, vs1, d1, ds1, p1, q1, rfl, rfl, rfl, h1, r1⟩ := trodAll_cons r0
  obtain ⟨v2, vs2, d2, ds2, p2, q2, rfl, rfl, rfl, h2, r2⟩ := trodAll_cons r1
  obtain ⟨rfl, rfl, rfl⟩ := trodAll_nil r2
  obtain rfl : args = #[v0, v1, v2] := by cases args; simp_all
  obtain ⟨s0, PA0, pc0, QA0, qc0, rfl, hs0⟩ := open_shelf (hval 0 41 v0 rfl rfl) h0
  obtain ⟨l1, A1, c1, rfl, hA1, hc1, hm1, hw1⟩ := open_effs (hval 1 36 v1 rfl rfl) h1
  obtain ⟨a2, rfl, rfl, rfl, w2⟩ := open_int Try.underlying43 (hval 2 43 v2 rfl rfl) h2
  exact idealDoes_any s0 PA0 pc0 QA0 qc0 l1 A1 c1 a2 W hs0 hA1 hc1 hm1
set_option maxRecDepth 100000 in
theorem idealDoes_lifted (os : Os) (started : os.Started) (H : Type) (enc : TypeId × Value → H) :
    ReturnsInHanded {} Try.checked os 16 .any (Rows.idealDoesSpec.pre6 enc Try.prog Try.f16 Rows.idealDoesRow.domain false) (Rows.idealDoesSpec.post enc Try.prog Try.f16 false true false false) :=
  lifted_of_walk started idealDoes_walk (by kernel_rfl) Try.func16 rfl rfl (by kernel_rfl)
    (fun ds h => match ds, h with | [d1, d2, d3], _ => rfl)
    (ChangeSpec.witness6 (enc := enc) (C := Try.checked) false ⟨#[], #[.agg #[.slice none 0 0, .slice none 0 0], .slice none 0 0, .int .u64 0], []⟩ 8 (by kernel_rfl) (by kernel_rfl) (by kernel_rfl) (by kernel_rfl))
theorem idealDoes_holds : Rows.IdealDoesSaid :=
  OpenClaim.holds_of_wide 16 Try.f16 rfl rfl rfl rfl rfl rfl rfl ⟨rfl, rfl, rfl, rfl, rfl⟩ rfl rfl rfl rfl rfl (by kernel_rfl) Try.func16 (by kernel_rfl)
    (of_decide_eq_true (by kernel_rfl)) (by unfold Func.isWrapper; first | (rw [if_pos (by decide +kernel)]; kernel_rfl) | (rw [if_neg (by decide +kernel)]; exact ⟨rfl, rfl⟩))
    (fun os started H enc _ => idealDoes_lifted os started H enc)
end Go.Proofs.Ythpegmeebhkhbaa
