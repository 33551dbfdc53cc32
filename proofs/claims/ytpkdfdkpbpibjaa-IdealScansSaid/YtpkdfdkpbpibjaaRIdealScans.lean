/- For any store and any two texts the statement IdealScans returns true (a scan tells each pair of its range once, rising, and turns nothing), and nothing that was in memory changes. No condition. -/
import Derived.Test.YtpkdfdkpbpibjaaIScans
import Derived.Test.YtpkdfdkpbpibjaaOpen
import Derived.Test.YtpkdfdkpbpibjaaLaw
namespace Go.Proofs.Ytpkdfdkpbpibjaa
open Go.ChangeShapes Go.WideShapes Go.ChangeAt Go.RowKit
open Go.ChangeMaps (open_string)
set_option maxRecDepth 100000 in
theorem idealScans_walk : Walk 14 Try.f14 := by
  intro H enc W base args ds p hval hA
  have hA' : DataW.TrodAll enc Try.prog W 0 (fun _ => true) true Try.f14.params.toList args.toList ds p := hA
  clear hA
  rw [Try.params14] at hA' hval
  obtain ⟨v0, vs0, d0, ds0, p0, q0, hargs, rfl, rfl, h0, r0⟩ := trodAll_cons hA'
  obtain ⟨v1, vs1, d1, ds1, p1, q1, rfl, rfl, rfl, h1, r1⟩ := trodAll_cons r0
  obtain ⟨v2, vs2, d2, ds2, p2, q2, rfl, rfl, rfl, h2, r2⟩ := trodAll_cons r1
  obtain ⟨rfl, rfl, rfl⟩ := trodAll_nil r2
  obtain rfl : args = #[v0, v1, v2] := by cases args; simp_all
  obtain ⟨s0, PA0, pc0, QA0, qc0, rfl, hs0⟩ := open_shelf (hval 0 41 v0 rfl rfl) h0
  obtain ⟨a1, rfl, rfl, rfl, w1⟩ := open_string Try.underlying9 (hval 1 9 v1 rfl rfl) h1
  obtain ⟨a2, rfl, rfl, rfl, w2⟩ := open_string Try.underlying9 (hval 2 9 v2 rfl rfl) h2
  exact idealScans_any s0 PA0 pc0 QA0 qc0 a1 a2 W hs0
set_option maxRecDepth 100000 in
theorem idealScans_lifted (os : Os) (started : os.Started) (H : Type) (enc : TypeId × Value → H) :
    ReturnsInHanded {} Try.checked os 14 .any (Rows.idealScansSpec.pre6 enc Try.prog Try.f14 Rows.idealScansRow.domain false) (Rows.idealScansSpec.post enc Try.prog Try.f14 false true false false) :=
  lifted_of_walk started idealScans_walk (by kernel_rfl) Try.func14 rfl rfl (by kernel_rfl)
    (fun ds h => match ds, h with | [d1, d2, d3], _ => rfl)
    (ChangeSpec.witness6 (enc := enc) (C := Try.checked) false ⟨#[], #[.agg #[.slice none 0 0, .slice none 0 0], .string ByteArray.empty, .string ByteArray.empty], []⟩ 8 (by kernel_rfl) (by kernel_rfl) (by kernel_rfl) (by kernel_rfl))
theorem idealScans_holds : Rows.IdealScansSaid :=
  OpenClaim.holds_of_wide 14 Try.f14 rfl rfl rfl rfl rfl rfl rfl ⟨rfl, rfl, rfl, rfl, rfl⟩ rfl rfl rfl rfl rfl (by kernel_rfl) Try.func14 (by kernel_rfl)
    (of_decide_eq_true (by kernel_rfl)) (by unfold Func.isWrapper; first | (rw [if_pos (by decide +kernel)]; kernel_rfl) | (rw [if_neg (by decide +kernel)]; exact ⟨rfl, rfl⟩))
    (fun os started H enc _ => idealScans_lifted os started H enc)
end Go.Proofs.Ytpkdfdkpbpibjaa
