/- The statement SerialOne returns true, and nothing that was in memory changes. The tables of the library are laid by the program's text. -/
import Derived.Test.YtamcehfcjcmpmaaDoorOpnI
import Derived.Test.YtamcehfcjcmpmaaDoorLawD
namespace Go.Proofs.YtamcehfcjcmpmaaDoor
open Go.ChangeShapes Go.WideShapes Go.ChangeAt Go.RowKit
open Go.ChangeMaps (open_string)
set_option maxRecDepth 100000 in
theorem serialOne_walk : Walk 3 Tryd.f3 := by
  intro H enc W base args ds p hval hA htab
  have hA' : DataW.TrodAll enc Tryd.prog W 0 (fun _ => true) true Tryd.f3.params.toList args.toList ds p := hA
  clear hA
  rw [Tryd.params3] at hA' hval
  obtain ⟨v0, vs0, d0, ds0, p0, q0, hargs, rfl, rfl, h0, r0⟩ := trodAll_cons hA'
  obtain ⟨v1, vs1, d1, ds1, p1, q1, rfl, rfl, rfl, h1, r1⟩ := trodAll_cons r0
  obtain ⟨v2, vs2, d2, ds2, p2, q2, rfl, rfl, rfl, h2, r2⟩ := trodAll_cons r1
  obtain ⟨v3, vs3, d3, ds3, p3, q3, rfl, rfl, rfl, h3, r3⟩ := trodAll_cons r2
  obtain ⟨rfl, rfl, rfl⟩ := trodAll_nil r3
  obtain rfl : args = #[v0, v1, v2, v3] := by cases args; simp_all
  obtain ⟨s0, PA0, pc0, QA0, qc0, rfl, hs0⟩ := open_shelf (hval 0 25 v0 rfl rfl) h0
  obtain ⟨l1, g1, A1, c1, rfl, hs1, hd1⟩ := open_calls_deep (hval 1 26 v1 rfl rfl) h1
  obtain ⟨l2, A2, c2, rfl, ha2, hb2, hc2⟩ := open_ints (hval 2 27 v2 rfl rfl) h2
  obtain ⟨l3, A3, c3, rfl, ha3, hb3, hc3⟩ := open_ints (hval 3 27 v3 rfl rfl) h3
  exact serialOne_any s0 PA0 pc0 QA0 qc0 l1 g1 A1 c1 l2 A2 c2 l3 A3 c3 W hs0 hs1 hd1 ha2 hb2 hc2 ha3 hb3 hc3 htab
set_option maxRecDepth 100000 in
theorem serialOne_lifted (os : Os) (started : os.Started) (H : Type) (enc : TypeId × Value → H) :
    ReturnsInHanded {} Tryd.checked os 3 .any (fun w args => (Rows.serialOneSpec.pre enc Tryd.prog Tryd.f3 [] false w args ∧ laidMetH Tryd.prog laid3 w) ∧ sizedMet enc Tryd.prog Tryd.f3 (OpenSpec.ofChange Rows.serialOneSpec) false w args) (Rows.serialOneSpec.post enc Tryd.prog Tryd.f3 false true false false) :=
  lifted_of_walk started serialOne_walk (by kernel_rfl) Tryd.func3 rfl rfl (by kernel_rfl)
    (fun ds h => match ds, h with | [d1, d2, d3, d4], _ => rfl)
    #[.agg #[.slice none 0 0, .slice none 0 0], .slice none 0 0, .slice none 0 0, .slice none 0 0] (by kernel_rfl) (by kernel_rfl) (by kernel_rfl)
theorem serialOne_holds : Rows.SerialOneSaid :=
  OpenClaim.holds_of_wide 3 Tryd.f3 rfl rfl rfl rfl rfl rfl rfl ⟨rfl, rfl, rfl, rfl, rfl⟩ rfl rfl rfl rfl rfl (by kernel_rfl) Tryd.func3 (by kernel_rfl)
    (of_decide_eq_true (by kernel_rfl)) (by unfold Func.isWrapper; first | (rw [if_pos (by decide +kernel)]; kernel_rfl) | (rw [if_neg (by decide +kernel)]; exact ⟨rfl, rfl⟩))
    (fun os started H enc _ => serialOne_lifted os started H enc)
set_option maxRecDepth 100000 in
theorem serialOne_card : Rows.SerialOneCardSaid :=
  Claim7.holds_tied_plain_at .later [] [.data, .data, .data] true (true, "cc50e8a27be894cd3df919902ffc38f10169cd04d1fcc6c20ec3a075c4165222") false serialOne_holds (fun _ h => by cases h) (by kernel_rfl) (fun _ h => by cases h) serialOne_row_tie rfl ⟨rfl, rfl⟩ (by kernel_rfl) rfl
    (fun f fn hf hfn => by
      obtain rfl : f = 3 := Option.some.inj ((show Tryd.prog.funcNamed "fusee/fuseelaw25.SerialOne" = some 3 by kernel_rfl).symm.trans hf) |>.symm
      obtain rfl : fn = Tryd.f3 := (Option.some.inj (Tryd.func3.symm.trans hfn)).symm
      exact ⟨by kernel_rfl, fun j t ht => by
        rw [Tryd.params3] at ht
        have hm : t ∈ [25, 26, 27, 27] := by simpa using Array.mem_of_getElem? ht
        have hall : ([25, 26, 27, 27].all fun u => !Tryd.prog.wantsStandIn u) = true := by kernel_rfl
        exact (show Tryd.prog.wantsStandIn t = false by simpa using List.all_eq_true.1 hall t hm)⟩)
    (by kernel_rfl)
end Go.Proofs.YtamcehfcjcmpmaaDoor
