/- For any link and any level the statement OrderNone returns true (of no order each call says so), and nothing that was in memory changes. No condition. -/
import Derived.Test.YthadifbbepcdiaaONone
import Derived.Test.YthadifbbepcdiaaOOpen
import Derived.Test.YthadifbbepcdiaaLaw
namespace Go.Proofs.Ythadifbbepcdiaa
open Go.ChangeShapes Go.WideShapes Go.ChangeAt Go.RowKit
open Go.ChangeMaps (open_string)
set_option maxRecDepth 100000 in
theorem orderNone_walk : Walk 7 Try.f7 := by
  intro H enc W base args ds p hval hA
  have hA' : DataW.TrodAll enc Try.prog W 0 (fun _ => true) true Try.f7.params.toList args.toList ds p := hA
  clear hA
  rw [Try.params7] at hA' hval
  obtain ⟨v0, vs0, d0, ds0, p0, q0, hargs, rfl, rfl, h0, r0⟩ := trodAll_cons hA'
  obtain ⟨v1, vs1, d1, ds1, p1, q1, rfl, rfl, rfl, h1, r1⟩ := trodAll_cons r0
  obtain ⟨rfl, rfl, rfl⟩ := trodAll_nil r1
  obtain rfl : args = #[v0, v1] := by cases args; simp_all
  obtain ⟨x0, rfl⟩ := open_link (hval 0 29 v0 rfl rfl) h0
  obtain ⟨a1, rfl, rfl, rfl, w1⟩ := open_int Try.underlying3 (hval 1 3 v1 rfl rfl) h1
  exact orderNone_any x0 a1 W
set_option maxRecDepth 100000 in
theorem orderNone_lifted (os : Os) (started : os.Started) (H : Type) (enc : TypeId × Value → H) :
    ReturnsInHanded {} Try.checked os 7 .any (Rows.orderNoneSpec.pre6 enc Try.prog Try.f7 Rows.orderNoneRow.domain false) (Rows.orderNoneSpec.post enc Try.prog Try.f7 false true false false) :=
  lifted_of_walk started orderNone_walk (by kernel_rfl) Try.func7 rfl rfl (by kernel_rfl)
    (fun ds h => match ds, h with | [d1, d2], _ => rfl)
    (ChangeSpec.witness6 (enc := enc) (C := Try.checked) false ⟨#[], #[.agg #[.string ByteArray.empty, .int .u64 0, .int .u64 0, .int .i64 0, .int .i64 0], .int .i64 0], []⟩ 8 (by kernel_rfl) (by kernel_rfl) (by kernel_rfl) (by kernel_rfl))
theorem orderNone_holds : Rows.OrderNoneSaid :=
  OpenClaim.holds_of_wide 7 Try.f7 rfl rfl rfl rfl rfl rfl rfl ⟨rfl, rfl, rfl, rfl, rfl⟩ rfl rfl rfl rfl rfl (by kernel_rfl) Try.func7 (by kernel_rfl)
    (of_decide_eq_true (by kernel_rfl)) (by unfold Func.isWrapper; first | (rw [if_pos (by decide +kernel)]; kernel_rfl) | (rw [if_neg (by decide +kernel)]; exact ⟨rfl, rfl⟩))
    (fun os started H enc _ => orderNone_lifted os started H enc)
end Go.Proofs.Ythadifbbepcdiaa
