/- The statement SerialStale returns true, and nothing that was in memory changes. The tables of the library are laid by the program's text. -/
import Derived.Test.YtamcehfcjcmpmaaDoorStale
import Derived.Test.YtamcehfcjcmpmaaDoorLawD
namespace Go.Proofs.YtamcehfcjcmpmaaDoor
open Go.ChangeShapes Go.WideShapes Go.ChangeAt Go.RowKit
open Go.ChangeMaps (open_string)
set_option maxRecDepth 100000 in
theorem serialStale_walk : Walk 4 Tryd.f4 := by
  intro H enc W base args ds p hval hA htab
  have hA' : DataW.TrodAll enc Tryd.prog W 0 (fun _ => true) true Tryd.f4.params.toList args.toList ds p := hA
  clear hA
  rw [Tryd.params4] at hA' hval
  obtain ⟨v0, vs0, d0, ds0, p0, q0, hargs, rfl, rfl, h0, r0⟩ := trodAll_cons hA'
  obtain ⟨v1, vs1, d1, ds1, p1, q1, rfl, rfl, rfl, h1, r1⟩ := trodAll_cons r0
  obtain ⟨v2, vs2, d2, ds2, p2, q2, rfl, rfl, rfl, h2, r2⟩ := trodAll_cons r1
  obtain ⟨v3, vs3, d3, ds3, p3, q3, rfl, rfl, rfl, h3, r3⟩ := trodAll_cons r2
  obtain ⟨v4, vs4, d4, ds4, p4, q4, rfl, rfl, rfl, h4, r4⟩ := trodAll_cons r3
  obtain ⟨rfl, rfl, rfl⟩ := trodAll_nil r4
  obtain rfl : args = #[v0, v1, v2, v3, v4] := by cases args; simp_all
  obtain ⟨a0, rfl, rfl, rfl, w0⟩ := open_string Tryd.underlying9 (hval 0 9 v0 rfl rfl) h0
  obtain ⟨a1, rfl, rfl, rfl, w1⟩ := open_string Tryd.underlying9 (hval 1 9 v1 rfl rfl) h1
  obtain ⟨a2, rfl, rfl, rfl, w2⟩ := open_string Tryd.underlying9 (hval 2 9 v2 rfl rfl) h2
  obtain ⟨a3, rfl, rfl, rfl⟩ := open_bool Tryd.underlying4 (hval 3 4 v3 rfl rfl) h3
  obtain ⟨a4, rfl, rfl, rfl, w4⟩ := open_int Tryd.underlying3 (hval 4 3 v4 rfl rfl) h4
  exact serialStale_any a0 a1 a2 a3 a4 W htab
set_option maxRecDepth 100000 in
theorem serialStale_lifted (os : Os) (started : os.Started) (H : Type) (enc : TypeId × Value → H) :
    ReturnsInHanded {} Tryd.checked os 4 .any (fun w args => (Rows.serialStaleSpec.pre enc Tryd.prog Tryd.f4 [] false w args ∧ laidMetH Tryd.prog laid3 w) ∧ sizedMet enc Tryd.prog Tryd.f4 (OpenSpec.ofChange Rows.serialStaleSpec) false w args) (Rows.serialStaleSpec.post enc Tryd.prog Tryd.f4 false true false false) :=
  lifted_of_walk started serialStale_walk (by kernel_rfl) Tryd.func4 rfl rfl (by kernel_rfl)
    (fun ds h => match ds, h with | [d1, d2, d3, d4, d5], _ => rfl)
    #[.string ByteArray.empty, .string ByteArray.empty, .string ByteArray.empty, .bool false, .int .i64 0] (by kernel_rfl) (by kernel_rfl) (by kernel_rfl)
theorem serialStale_holds : Rows.SerialStaleSaid :=
  OpenClaim.holds_of_wide 4 Tryd.f4 rfl rfl rfl rfl rfl rfl rfl ⟨rfl, rfl, rfl, rfl, rfl⟩ rfl rfl rfl rfl rfl (by kernel_rfl) Tryd.func4 (by kernel_rfl)
    (of_decide_eq_true (by kernel_rfl)) (by unfold Func.isWrapper; first | (rw [if_pos (by decide +kernel)]; kernel_rfl) | (rw [if_neg (by decide +kernel)]; exact ⟨rfl, rfl⟩))
    (fun os started H enc _ => serialStale_lifted os started H enc)
set_option maxRecDepth 100000 in
theorem serialStale_card : Rows.SerialStaleCardSaid :=
  Claim7.holds_tied_plain_at .later [] [.data, .data, .data] true (true, "cc50e8a27be894cd3df919902ffc38f10169cd04d1fcc6c20ec3a075c4165222") false serialStale_holds (fun _ h => by cases h) (by kernel_rfl) (fun _ h => by cases h) serialStale_row_tie rfl ⟨rfl, rfl⟩ (by kernel_rfl) rfl
    (fun f fn hf hfn => by
      obtain rfl : f = 4 := Option.some.inj ((show Tryd.prog.funcNamed "fusee/fuseelaw25.SerialStale" = some 4 by kernel_rfl).symm.trans hf) |>.symm
      obtain rfl : fn = Tryd.f4 := (Option.some.inj (Tryd.func4.symm.trans hfn)).symm
      exact ⟨by kernel_rfl, fun j t ht => by
        rw [Tryd.params4] at ht
        have hm : t ∈ [9, 9, 9, 4, 3] := by simpa using Array.mem_of_getElem? ht
        have hall : ([9, 9, 9, 4, 3].all fun u => !Tryd.prog.wantsStandIn u) = true := by kernel_rfl
        exact (show Tryd.prog.wantsStandIn t = false by simpa using List.all_eq_true.1 hall t hm)⟩)
    (by kernel_rfl)
end Go.Proofs.YtamcehfcjcmpmaaDoor
