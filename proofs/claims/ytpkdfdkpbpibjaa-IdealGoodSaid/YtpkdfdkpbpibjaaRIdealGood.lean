/- For any call the statement IdealGood returns true (which calls are good is the reference's word), and nothing that was in memory changes. No condition. -/
import Derived.Test.YtpkdfdkpbpibjaaIGood
import Derived.Test.YtpkdfdkpbpibjaaOpen
import Derived.Test.YtpkdfdkpbpibjaaLaw
namespace Go.Proofs.Ytpkdfdkpbpibjaa
open Go.ChangeShapes Go.WideShapes Go.ChangeAt Go.RowKit
open Go.ChangeMaps (open_string)
set_option maxRecDepth 100000 in
theorem idealGood_walk : Walk 8 Try.f8 := by
  intro H enc W base args ds p hval hA
  have hA' : DataW.TrodAll enc Try.prog W 0 (fun _ => true) true Try.f8.params.toList args.toList ds p := hA
  clear hA
  rw [Try.params8] at hA' hval
  obtain ⟨v0, vs0, d0, ds0, p0, q0, hargs, rfl, rfl, h0, r0⟩ := trodAll_cons hA'
  obtain ⟨rfl, rfl, rfl⟩ := trodAll_nil r0
  obtain rfl : args = #[v0] := by cases args; simp_all
  obtain ⟨c0, g0, rfl, hc0⟩ := open_call (hval 0 50 v0 rfl rfl) h0
  exact idealGood_any c0 g0 W hc0
set_option maxRecDepth 100000 in
theorem idealGood_lifted (os : Os) (started : os.Started) (H : Type) (enc : TypeId × Value → H) :
    ReturnsInHanded {} Try.checked os 8 .any (Rows.idealGoodSpec.pre6 enc Try.prog Try.f8 Rows.idealGoodRow.domain false) (Rows.idealGoodSpec.post enc Try.prog Try.f8 false true false false) :=
  lifted_of_walk started idealGood_walk (by kernel_rfl) Try.func8 rfl rfl (by kernel_rfl)
    (fun ds h => match ds, h with | [d1], _ => rfl)
    (ChangeSpec.witness6 (enc := enc) (C := Try.checked) false ⟨#[], #[.agg #[.int .i64 0, .string ByteArray.empty, .string ByteArray.empty, .string ByteArray.empty, .slice none 0 0]], []⟩ 8 (by kernel_rfl) (by kernel_rfl) (by kernel_rfl) (by kernel_rfl))
theorem idealGood_holds : Rows.IdealGoodSaid :=
  OpenClaim.holds_of_wide 8 Try.f8 rfl rfl rfl rfl rfl rfl rfl ⟨rfl, rfl, rfl, rfl, rfl⟩ rfl rfl rfl rfl rfl (by kernel_rfl) Try.func8 (by kernel_rfl)
    (of_decide_eq_true (by kernel_rfl)) (by unfold Func.isWrapper; first | (rw [if_pos (by decide +kernel)]; kernel_rfl) | (rw [if_neg (by decide +kernel)]; exact ⟨rfl, rfl⟩))
    (fun os started H enc _ => idealGood_lifted os started H enc)
end Go.Proofs.Ytpkdfdkpbpibjaa
