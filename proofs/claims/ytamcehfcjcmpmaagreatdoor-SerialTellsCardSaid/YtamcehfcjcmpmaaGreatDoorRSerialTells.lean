/- The statement SerialTells returns true, and nothing that was in memory changes. The tables of the library are laid by the program's text. -/
import Derived.Test.YtamcehfcjcmpmaaGreatDoorTells
import Derived.Test.YtamcehfcjcmpmaaGreatDoorLawD
namespace Go.Proofs.YtamcehfcjcmpmaaGreatDoor
open Go.ChangeShapes Go.WideShapes Go.ChangeAt Go.RowKit
open Go.ChangeMaps (open_string)
set_option maxRecDepth 100000 in
theorem serialTells_walk : Walk 3 Tryz.f3 := by
  intro H enc W base args ds p hval hA htab
  have hA' : DataW.TrodAll enc Tryz.prog W 0 (fun _ => true) true Tryz.f3.params.toList args.toList ds p := hA
  clear hA
  rw [Tryz.params3] at hA' hval
  obtain ⟨v0, vs0, d0, ds0, p0, q0, hargs, rfl, rfl, h0, r0⟩ := trodAll_cons hA'
  obtain ⟨v1, vs1, d1, ds1, p1, q1, rfl, rfl, rfl, h1, r1⟩ := trodAll_cons r0
  obtain ⟨rfl, rfl, rfl⟩ := trodAll_nil r1
  obtain rfl : args = #[v0, v1] := by cases args; simp_all
  obtain ⟨s0, PA0, pc0, QA0, qc0, rfl, hs0⟩ := open_shelf (hval 0 25 v0 rfl rfl) h0
  obtain ⟨l1, A1, c1, rfl, hs1⟩ := open_sts (hval 1 26 v1 rfl rfl) h1
  exact serialTells_any s0 PA0 pc0 QA0 qc0 l1 A1 c1 W hs0 hs1 htab
set_option maxRecDepth 100000 in
theorem serialTells_lifted (os : Os) (started : os.Started) (H : Type) (enc : TypeId × Value → H) :
    ReturnsInHanded {} Tryz.checked os 3 .any (fun w args => (Rows.serialTellsSpec.pre enc Tryz.prog Tryz.f3 [] false w args ∧ laidMetH Tryz.prog laid3 w) ∧ sizedMet enc Tryz.prog Tryz.f3 (OpenSpec.ofChange Rows.serialTellsSpec) false w args) (Rows.serialTellsSpec.post enc Tryz.prog Tryz.f3 false true false false) :=
  lifted_of_walk started serialTells_walk (by kernel_rfl) Tryz.func3 rfl rfl (by kernel_rfl)
    (fun ds h => match ds, h with | [d1, d2], _ => rfl)
    #[.agg #[.slice none 0 0, .slice none 0 0], .slice none 0 0] (by kernel_rfl) (by kernel_rfl) (by kernel_rfl)
theorem serialTells_holds : Rows.SerialTellsSaid :=
  OpenClaim.holds_of_wide 3 Tryz.f3 rfl rfl rfl rfl rfl rfl rfl ⟨rfl, rfl, rfl, rfl, rfl⟩ rfl rfl rfl rfl rfl (by kernel_rfl) Tryz.func3 (by kernel_rfl)
    (of_decide_eq_true (by kernel_rfl)) (by unfold Func.isWrapper; first | (rw [if_pos (by decide +kernel)]; kernel_rfl) | (rw [if_neg (by decide +kernel)]; exact ⟨rfl, rfl⟩))
    (fun os started H enc _ => serialTells_lifted os started H enc)
set_option maxRecDepth 100000 in
theorem serialTells_card : Rows.SerialTellsCardSaid :=
  Claim7.holds_tied_plain_at .later [] [.data, .data, .data] true (true, "88224799e87cb72acbccac0eb4111f08a18661d2be4c9529ae03f45da93fb98a") false serialTells_holds (fun _ h => by cases h) (by kernel_rfl) (fun _ h => by cases h) serialTells_row_tie rfl ⟨rfl, rfl⟩ (by kernel_rfl) rfl
    (fun f fn hf hfn => by
      obtain rfl : f = 3 := Option.some.inj ((show Tryz.prog.funcNamed "fusee/fuseelaw25.SerialTells" = some 3 by kernel_rfl).symm.trans hf) |>.symm
      obtain rfl : fn = Tryz.f3 := (Option.some.inj (Tryz.func3.symm.trans hfn)).symm
      exact ⟨by kernel_rfl, fun j t ht => by
        rw [Tryz.params3] at ht
        have hm : t ∈ [25, 26] := by simpa using Array.mem_of_getElem? ht
        have hall : ([25, 26].all fun u => !Tryz.prog.wantsStandIn u) = true := by kernel_rfl
        exact (show Tryz.prog.wantsStandIn t = false by simpa using List.all_eq_true.1 hall t hm)⟩)
    (by kernel_rfl)
end Go.Proofs.YtamcehfcjcmpmaaGreatDoor
