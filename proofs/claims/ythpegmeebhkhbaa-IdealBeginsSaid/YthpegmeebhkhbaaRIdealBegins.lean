/- For any call the statement IdealBegins returns true (a call's first frame is the document's), and nothing that was in memory changes. No condition. -/
import Derived.Test.YthpegmeebhkhbaaIBegins
import Derived.Test.YthpegmeebhkhbaaOpenCalls
import Derived.Test.YthpegmeebhkhbaaLaw
namespace Go.Proofs.Ythpegmeebhkhbaa
open Go.ChangeShapes Go.WideShapes Go.ChangeAt Go.RowKit
open Go.ChangeMaps (open_string)
set_option maxRecDepth 100000 in
theorem idealBegins_walk : Walk 11 Try.f11 := by
  intro H enc W base args ds p hval hA
  have hA' : DataW.TrodAll enc Try.prog W 0 (fun _ => true) true Try.f11.params.toList args.toList ds p := hA
  clear hA
  rw [Try.params11] at hA' hval
  obtain ⟨v0, vs0, d0, ds0, p0, q0, hargs, rfl, rfl, h0, r0⟩ := trodAll_cons hA'
  obtain ⟨rfl, rfl, rfl⟩ := trodAll_nil r0
  obtain rfl : args = #[v0] := by cases args; simp_all
  obtain ⟨c0, g0, rfl, hc0, he0⟩ := open_call_deep (hval 0 50 v0 rfl rfl) h0
  exact idealBegins_any c0 g0 W hc0 he0
set_option maxRecDepth 100000 in
theorem idealBegins_lifted (os : Os) (started : os.Started) (H : Type) (enc : TypeId × Value → H) :
    ReturnsInHanded {} Try.checked os 11 .any (Rows.idealBeginsSpec.pre6 enc Try.prog Try.f11 Rows.idealBeginsRow.domain false) (Rows.idealBeginsSpec.post enc Try.prog Try.f11 false true false false) :=
  lifted_of_walk started idealBegins_walk (by kernel_rfl) Try.func11 rfl rfl (by kernel_rfl)
    (fun ds h => match ds, h with | [d1], _ => rfl)
    (ChangeSpec.witness6 (enc := enc) (C := Try.checked) false ⟨#[], #[.agg #[.int .i64 0, .string ByteArray.empty, .string ByteArray.empty, .string ByteArray.empty, .slice none 0 0]], []⟩ 8 (by kernel_rfl) (by kernel_rfl) (by kernel_rfl) (by kernel_rfl))
theorem idealBegins_holds : Rows.IdealBeginsSaid :=
  OpenClaim.holds_of_wide 11 Try.f11 rfl rfl rfl rfl rfl rfl rfl ⟨rfl, rfl, rfl, rfl, rfl⟩ rfl rfl rfl rfl rfl (by kernel_rfl) Try.func11 (by kernel_rfl)
    (of_decide_eq_true (by kernel_rfl)) (by unfold Func.isWrapper; first | (rw [if_pos (by decide +kernel)]; kernel_rfl) | (rw [if_neg (by decide +kernel)]; exact ⟨rfl, rfl⟩))
    (fun os started H enc _ => idealBegins_lifted os started H enc)
end Go.Proofs.Ythpegmeebhkhbaa
