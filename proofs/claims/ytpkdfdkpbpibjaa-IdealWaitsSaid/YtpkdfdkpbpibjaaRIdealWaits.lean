/- For any store and any text the statement IdealWaits returns true (what is put in line comes off behind what stood there, unturned), and nothing that was in memory changes. No condition. -/
import Derived.Test.YtpkdfdkpbpibjaaIWaits
import Derived.Test.YtpkdfdkpbpibjaaOpen
import Derived.Test.YtpkdfdkpbpibjaaLaw
namespace Go.Proofs.Ytpkdfdkpbpibjaa
open Go.ChangeShapes Go.WideShapes Go.ChangeAt Go.RowKit
open Go.ChangeMaps (open_string)
set_option maxRecDepth 100000 in
theorem idealWaits_walk : Walk 10 Try.f10 := by
  intro H enc W base args ds p hval hA
  have hA' : DataW.TrodAll enc Try.prog W 0 (fun _ => true) true Try.f10.params.toList args.toList ds p := hA
  clear hA
  rw [Try.params10] at hA' hval
  obtain ⟨v0, vs0, d0, ds0, p0, q0, hargs, rfl, rfl, h0, r0⟩ := trodAll_cons hA'
  obtain ⟨v1, vs1, d1, ds1, p1, q1, rfl, rfl, rfl, h1, r1⟩ := trodAll_cons r0
  obtain ⟨rfl, rfl, rfl⟩ := trodAll_nil r1
  obtain rfl : args = #[v0, v1] := by cases args; simp_all
  obtain ⟨s0, PA0, pc0, QA0, qc0, rfl, hs0⟩ := open_shelf (hval 0 41 v0 rfl rfl) h0
  obtain ⟨a1, rfl, rfl, rfl, w1⟩ := open_string Try.underlying9 (hval 1 9 v1 rfl rfl) h1
  exact idealWaits_any s0 PA0 pc0 QA0 qc0 a1 W hs0
set_option maxRecDepth 100000 in
theorem idealWaits_lifted (os : Os) (started : os.Started) (H : Type) (enc : TypeId × Value → H) :
    ReturnsInHanded {} Try.checked os 10 .any (Rows.idealWaitsSpec.pre6 enc Try.prog Try.f10 Rows.idealWaitsRow.domain false) (Rows.idealWaitsSpec.post enc Try.prog Try.f10 false true false false) :=
  lifted_of_walk started idealWaits_walk (by kernel_rfl) Try.func10 rfl rfl (by kernel_rfl)
    (fun ds h => match ds, h with | [d1, d2], _ => rfl)
    (ChangeSpec.witness6 (enc := enc) (C := Try.checked) false ⟨#[], #[.agg #[.slice none 0 0, .slice none 0 0], .string ByteArray.empty], []⟩ 8 (by kernel_rfl) (by kernel_rfl) (by kernel_rfl) (by kernel_rfl))
theorem idealWaits_holds : Rows.IdealWaitsSaid :=
  OpenClaim.holds_of_wide 10 Try.f10 rfl rfl rfl rfl rfl rfl rfl ⟨rfl, rfl, rfl, rfl, rfl⟩ rfl rfl rfl rfl rfl (by kernel_rfl) Try.func10 (by kernel_rfl)
    (of_decide_eq_true (by kernel_rfl)) (by unfold Func.isWrapper; first | (rw [if_pos (by decide +kernel)]; kernel_rfl) | (rw [if_neg (by decide +kernel)]; exact ⟨rfl, rfl⟩))
    (fun os started H enc _ => idealWaits_lifted os started H enc)
end Go.Proofs.Ytpkdfdkpbpibjaa
