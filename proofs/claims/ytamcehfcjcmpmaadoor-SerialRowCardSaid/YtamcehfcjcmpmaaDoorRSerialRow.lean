/- The statement SerialRow returns true, and nothing that was in memory changes. The tables of the library are laid by the program's text. -/
import Derived.Test.YtamcehfcjcmpmaaDoorRowW
import Derived.Test.YtamcehfcjcmpmaaDoorLawD
namespace Go.Proofs.YtamcehfcjcmpmaaDoor
open Go.ChangeShapes Go.WideShapes Go.ChangeAt Go.RowKit
open Go.ChangeMaps (open_string)
set_option maxRecDepth 100000 in
theorem serialRow_walk : Walk 8 Tryd.f8 := by
  intro H enc W base args ds p hval hA htab
  have hA' : DataW.TrodAll enc Tryd.prog W 0 (fun _ => true) true Tryd.f8.params.toList args.toList ds p := hA
  clear hA
  rw [Tryd.params8] at hA' hval
  obtain ⟨v0, vs0, d0, ds0, p0, q0, hargs, rfl, rfl, h0, r0⟩ := trodAll_cons hA'
  obtain ⟨v1, vs1, d1, ds1, p1, q1, rfl, rfl, rfl, h1, r1⟩ := trodAll_cons r0
  obtain ⟨rfl, rfl, rfl⟩ := trodAll_nil r1
  obtain rfl : args = #[v0, v1] := by cases args; simp_all
  obtain ⟨s0, PA0, pc0, QA0, qc0, rfl, hs0⟩ := open_shelf (hval 0 25 v0 rfl rfl) h0
  obtain ⟨l1, A1, c1, rfl, hs1⟩ := open_sts (hval 1 31 v1 rfl rfl) h1
  exact serialRow_any s0 PA0 pc0 QA0 qc0 l1 A1 c1 W hs0 hs1 htab
set_option maxRecDepth 100000 in
theorem serialRow_lifted (os : Os) (started : os.Started) (H : Type) (enc : TypeId × Value → H) :
    ReturnsInHanded {} Tryd.checked os 8 .any (fun w args => (Rows.serialRowSpec.pre enc Tryd.prog Tryd.f8 [] false w args ∧ laidMetH Tryd.prog laid3 w) ∧ sizedMet enc Tryd.prog Tryd.f8 (OpenSpec.ofChange Rows.serialRowSpec) false w args) (Rows.serialRowSpec.post enc Tryd.prog Tryd.f8 false true false false) :=
  lifted_of_walk started serialRow_walk (by kernel_rfl) Tryd.func8 rfl rfl (by kernel_rfl)
    (fun ds h => match ds, h with | [d1, d2], _ => rfl)
    #[.agg #[.slice none 0 0, .slice none 0 0], .slice none 0 0] (by kernel_rfl) (by kernel_rfl) (by kernel_rfl)
theorem serialRow_holds : Rows.SerialRowSaid :=
  OpenClaim.holds_of_wide 8 Tryd.f8 rfl rfl rfl rfl rfl rfl rfl ⟨rfl, rfl, rfl, rfl, rfl⟩ rfl rfl rfl rfl rfl (by kernel_rfl) Tryd.func8 (by kernel_rfl)
    (of_decide_eq_true (by kernel_rfl)) (by unfold Func.isWrapper; first | (rw [if_pos (by decide +kernel)]; kernel_rfl) | (rw [if_neg (by decide +kernel)]; exact ⟨rfl, rfl⟩))
    (fun os started H enc _ => serialRow_lifted os started H enc)
set_option maxRecDepth 100000 in
theorem serialRow_card : Rows.SerialRowCardSaid :=
  Claim7.holds_tied_plain_at .later [] [.data, .data, .data] true (true, "cc50e8a27be894cd3df919902ffc38f10169cd04d1fcc6c20ec3a075c4165222") false serialRow_holds (fun _ h => by cases h) (by kernel_rfl) (fun _ h => by cases h) serialRow_row_tie rfl ⟨rfl, rfl⟩ (by kernel_rfl) rfl
    (fun f fn hf hfn => by
      obtain rfl : f = 8 := Option.some.inj ((show Tryd.prog.funcNamed "fusee/fuseelaw25.SerialRow" = some 8 by kernel_rfl).symm.trans hf) |>.symm
      obtain rfl : fn = Tryd.f8 := (Option.some.inj (Tryd.func8.symm.trans hfn)).symm
      exact ⟨by kernel_rfl, fun j t ht => by
        rw [Tryd.params8] at ht
        have hm : t ∈ [25, 31] := by simpa using Array.mem_of_getElem? ht
        have hall : ([25, 31].all fun u => !Tryd.prog.wantsStandIn u) = true := by kernel_rfl
        exact (show Tryd.prog.wantsStandIn t = false by simpa using List.all_eq_true.1 hall t hm)⟩)
    (by kernel_rfl)
end Go.Proofs.YtamcehfcjcmpmaaDoor
