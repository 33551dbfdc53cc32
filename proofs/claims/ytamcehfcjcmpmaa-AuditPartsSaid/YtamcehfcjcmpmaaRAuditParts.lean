/- For any two lists of numbers and any number the statement AuditParts returns true (blocks one behind the other, dealt out among four lists, are parted; with one left out, or one twice, they are not), and nothing that was in memory changes. No condition. -/
import Derived.Test.YtamcehfcjcmpmaaAParts
import Derived.Test.YtamcehfcjcmpmaaPOpen
import Derived.Test.YtamcehfcjcmpmaaLaw
namespace Go.Proofs.Ytamcehfcjcmpmaa
open Go.ChangeShapes Go.WideShapes Go.ChangeAt Go.RowKit
open Go.ChangeMaps (open_string)
set_option maxRecDepth 100000 in
theorem auditParts_walk : Walk 3 Try.f3 := by
  intro H enc W base args ds p hval hA
  have hA' : DataW.TrodAll enc Try.prog W 0 (fun _ => true) true Try.f3.params.toList args.toList ds p := hA
  clear hA
  rw [Try.params3] at hA' hval
  obtain ⟨v0, vs0, d0, ds0, p0, q0, hargs, rfl, rfl, h0, r0⟩ := trodAll_cons hA'
  obtain ⟨v1, vs1, d1, ds1, p1, q1, rfl, rfl, rfl, h1, r1⟩ := trodAll_cons r0
  obtain ⟨v2, vs2, d2, ds2, p2, q2, rfl, rfl, rfl, h2, r2⟩ := trodAll_cons r1
  obtain ⟨rfl, rfl, rfl⟩ := trodAll_nil r2
  obtain rfl : args = #[v0, v1, v2] := by cases args; simp_all
  obtain ⟨l0, A0, c0, rfl, hA0⟩ := open_numbers (hval 0 22 v0 rfl rfl) h0
  obtain ⟨l1, A1, c1, rfl, hA1⟩ := open_numbers (hval 1 22 v1 rfl rfl) h1
  obtain ⟨a2, rfl, rfl, rfl, w2⟩ := open_int Try.underlying3 (hval 2 3 v2 rfl rfl) h2
  exact auditParts_any l0 l1 A0 A1 c0 c1 a2 W hA0 hA1
set_option maxRecDepth 100000 in
theorem auditParts_lifted (os : Os) (started : os.Started) (H : Type) (enc : TypeId × Value → H) :
    ReturnsInHanded {} Try.checked os 3 .any (Rows.auditPartsSpec.pre6 enc Try.prog Try.f3 Rows.auditPartsRow.domain false) (Rows.auditPartsSpec.post enc Try.prog Try.f3 false true false false) :=
  lifted_of_walk started auditParts_walk (by kernel_rfl) Try.func3 rfl rfl (by kernel_rfl)
    (fun ds h => match ds, h with | [d1, d2, d3], _ => rfl)
    (ChangeSpec.witness6 (enc := enc) (C := Try.checked) false ⟨#[], #[.slice none 0 0, .slice none 0 0, .int .i64 0], []⟩ 8 (by kernel_rfl) (by kernel_rfl) (by kernel_rfl) (by kernel_rfl))
theorem auditParts_holds : Rows.AuditPartsSaid :=
  OpenClaim.holds_of_wide 3 Try.f3 rfl rfl rfl rfl rfl rfl rfl ⟨rfl, rfl, rfl, rfl, rfl⟩ rfl rfl rfl rfl rfl (by kernel_rfl) Try.func3 (by kernel_rfl)
    (of_decide_eq_true (by kernel_rfl)) (by unfold Func.isWrapper; first | (rw [if_pos (by decide +kernel)]; kernel_rfl) | (rw [if_neg (by decide +kernel)]; exact ⟨rfl, rfl⟩))
    (fun os started H enc _ => auditParts_lifted os started H enc)
end Go.Proofs.Ytamcehfcjcmpmaa
