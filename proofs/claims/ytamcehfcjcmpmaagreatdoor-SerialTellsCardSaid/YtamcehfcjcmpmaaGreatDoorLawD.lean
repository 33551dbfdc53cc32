/- From a walk to a row and its tied card, once for all statements of this seat: tables of the library are laid by the program's text. -/
import Derived.Test.YtamcehfcjcmpmaaGreatDoorTie
import Derived.Test.YtamcehfcjcmpmaaGreatDoorCards
import Derived.Test.YtamcehfcjcmpmaaGreatDoorSt8
import Derived.LaidMore
import Derived.Stop.Joined
import Derived.Lib.LaidTab
import Derived.SevenTiedAt
import Derived.WalkKit
import Derived.ProofKit
import Derived.OpenShut
import Derived.Below
import Derived.Carry
namespace Go.Proofs.YtamcehfcjcmpmaaGreatDoor
open Go.ChangeShapes Go.WideShapes Go.ChangeAt Go.RowKit

theorem try_own : ownKnob Tryz.prog.godebug = none := by kernel_rfl
theorem try_laidOut : laidOutB Tryz.prog = true := by kernel_rfl

/-- all arguments read again as they read -/
theorem args_again {H : Type} {enc : TypeId × Value → H} {P : Program} (hl : laidOutB P = true) {W W' : World} (hb : Below W.heap.size W W') :
    ∀ (ts : List TypeId) (vs : List Value) (ds : List (DataW H)) (ps : List MemPlace), (∀ t ∈ ts, P.readableRec t = true ∧ t < P.types.size) →
      DataW.TrodAll enc P W 0 (fun _ => true) true ts vs ds ps → (∀ x ∈ ps, x.block < W.heap.size) → DataW.TrodAll enc P W' 0 (fun b => decide (b < W.heap.size)) true ts vs ds ps
  | [], [], [], ps, _, h, _ => h
  | t :: ts, v :: vs, d :: ds, ps, ht, ⟨p, q, h0, h1, e⟩, hp => by
    subst e
    exact ⟨p, q, Below.trod hl (ht t (by simp)).1 (ht t (by simp)).2 h0 hb fun x hx => hp x (by simp [hx]),
      args_again hl hb ts vs ds q (fun t' h' => ht t' (by simp [h'])) h1 fun x hx => hp x (by simp [hx]), rfl⟩
  | [], [], _ :: _, _, _, h, _ => absurd h (by simp [DataW.TrodAll])
  | [], _ :: _, _, _, _, h, _ => absurd h (by simp [DataW.TrodAll])
  | _ :: _, [], _, _, _, h, _ => absurd h (by simp [DataW.TrodAll])
  | _ :: _, _ :: _, [], _, _, h, _ => absurd h (by simp [DataW.TrodAll])

theorem trodAll_length {H : Type} {enc : TypeId × Value → H} {P : Program} {W : World} {b : Nat} {sp : Nat → Bool} {hd : Bool} :
    ∀ (ts : List TypeId) (vs : List Value) (ds : List (DataW H)) (ps : List MemPlace), DataW.TrodAll enc P W b sp hd ts vs ds ps → ds.length = ts.length
  | [], [], [], _, _ => rfl
  | t :: ts, v :: vs, d :: ds, _, ⟨p, q, _, h1, _⟩ => by simp [trodAll_length ts vs ds q h1]
  | [], [], _ :: _, _, h => absurd h (by simp [DataW.TrodAll])
  | [], _ :: _, _, _, h => absurd h (by simp [DataW.TrodAll])
  | _ :: _, [], _, _, h => absurd h (by simp [DataW.TrodAll])
  | _ :: _, _ :: _, [], _, h => absurd h (by simp [DataW.TrodAll])

/-- the tables that are laid -/
def laid3 : List (String × DataW Unit) := [("math/bits.deBruijn32tab", Rows.laid_math_bits_deBruijn32tab), ("math/bits.deBruijn64tab", Rows.laid_math_bits_deBruijn64tab), ("internal/strconv.uint64pow10", Rows.laid_internal_strconv_uint64pow10)]
theorem door_met (os : Os) (args : Array Value) : laidMetH Tryz.prog laid3 ((World.doorLaid Tryz.prog 400 os).forCall (fun _ _ => 0) ⟨#[], args, []⟩).memory :=
  laidMetH_of_parts3 (fuel := 8) (laidMet_of_run' 8 (by kernel_rfl) (by kernel_rfl)) (by kernel_rfl) (by kernel_rfl)
theorem tab_of_laid {W : World} (h : laidMetH Tryz.prog laid3 W) : Tab W.heap.size W := by
  rw [MakeChecks.laidMetH_plain _ _ _ (by kernel_rfl)] at h
  obtain ⟨ps, ⟨g0, t0, cs0, f0, p0, q0, hg0, ht0, hv0, hd0, ⟨g1, t1, cs1, f1, p1, q1, hg1, ht1, hv1, hd1, ⟨g2, t2, cs2, f2, p2, q2, hg2, ht2, hv2, hd2, _, _⟩, _⟩, _⟩, _, _⟩ := h
  obtain rfl := Option.some.inj ((show Tryz.prog.globalNamed "internal/strconv.uint64pow10" = some 0 by kernel_rfl).symm.trans hg2)
  obtain rfl := Option.some.inj ((show (Tryz.prog.globals[0]?).map (·.type) = some 132 by kernel_rfl).symm.trans ht2)
  refine Lib.tabBelow_of_tabIs ?_
  unfold Lib.TabIs
  rw [hv2, ← Lib.cells_of_tab (zs := Lib.pow10Tab) (k := .u64) Tryz.underlying132 Tryz.underlying48 (by kernel_rfl) (by kernel_rfl) hd2]

/-- WHAT A WALK HAS TO SHOW -/
def Walk (f : FuncId) (fn : Func) : Prop :=
  ∀ (H : Type) (enc : TypeId × Value → H) (W : World) (base : Nat) (args : Array Value) (ds : List (DataW H)) (p : List MemPlace),
    (∀ (j : Nat) t v, fn.params[j]? = some t → args[j]? = some v → Value.okWide Tryz.prog W .any base t v) →
    DataW.TrodAll enc Tryz.prog W 0 (fun _ => true) true fn.params.toList args.toList ds p → Tab W.heap.size W →
    Calls Tryz.prog f args W fun e W' => e = .returned (.bool true) ∧ Below W.heap.size W W'
theorem door_shaped (os : Os) (args : Array Value) : ((World.doorLaid Tryz.prog 400 os).forCall (fun _ _ => 0) ⟨#[], args, []⟩).Shaped Tryz.prog := World.shaped_of_RefB (by kernel_rfl) (by kernel_rfl)

set_option maxRecDepth 100000 in
theorem lifted_of_walk {f : FuncId} {fn : Func} {s : ChangeSpec} {os : Os} (started : os.Started) {H : Type} {enc : TypeId × Value → H} (hw : Walk f fn) (noInit : Tryz.prog.inits.idxOf? f = none) (hfn : Tryz.prog.funcs[f]? = some fn)
    (hres : fn.resultTypes = #[4]) (hvars : s.vars = []) (hts : fn.params.toList.all (fun t => Tryz.prog.readableRec t && decide (t < Tryz.prog.types.size)) = true)
    (hspec : ∀ ds : List (DataW H), ds.length = fn.params.size → s.fn H ds = { results := [.lit (.bool true)], args := ds })
    (args0 : Array Value) (hok : Input.okWideB Tryz.prog ((World.doorLaid Tryz.prog 400 os).forCall (fun _ _ => 0) ⟨#[], args0, []⟩) f ⟨#[], args0, []⟩ = true)
    (hpre : s.preB enc Tryz.prog fn [] false ((World.doorLaid Tryz.prog 400 os).forCall (fun _ _ => 0) ⟨#[], args0, []⟩).memory args0 8 = true)
    (hsz : s.sizedB enc Tryz.prog fn false ((World.doorLaid Tryz.prog 400 os).forCall (fun _ _ => 0) ⟨#[], args0, []⟩).memory args0 8 = true) :
    ReturnsInHanded {} Tryz.checked os f .any (fun w args => (s.pre enc Tryz.prog fn [] false w args ∧ laidMetH Tryz.prog laid3 w) ∧ sizedMet enc Tryz.prog fn (OpenSpec.ofChange s) false w args) (s.post enc Tryz.prog fn false true false false) := by
  refine returnsInHanded_of_change_and (C := Tryz.checked) (X := fun w _ => laidMetH Tryz.prog laid3 w) (fun _ _ _ hh h => h.of_heap hh) try_own started noInit hfn
    (ChangeSpec.witness_shaped (enc := enc) (C := Tryz.checked) (os := os) (X := fun w _ => laidMetH Tryz.prog laid3 w) false (World.doorLaid Tryz.prog 400 os) args0 8 rfl (door_shaped os args0) hok hpre hsz (door_met os _)) ?_
  intro W base args ds gs before hval hW hcnd _ hlaid _
  have hW' := hW
  obtain ⟨p, q, hA, hV, rfl, hfz, hnd⟩ := hW
  rw [hvars] at hV
  obtain ⟨rfl, rfl⟩ := trodVars_none hV
  refine (hw H enc W base args ds p hval hA (tab_of_laid hlaid)).mono fun e W' ⟨he, bel⟩ => ?_
  subst he
  have hlt : ∀ x ∈ p, x.block < W.heap.size := fun x hx => hW'.lt x (by simp [hx])
  have hl : ds.length = fn.params.size := by rw [trodAll_length _ _ _ _ hA]; simp
  have e1 : s.fn H (ds ++ []) = { results := [.lit (.bool true)], args := ds } := by rw [List.append_nil]; exact hspec ds hl
  have hpp : ∀ t ∈ fn.params.toList, Tryz.prog.readableRec t = true ∧ t < Tryz.prog.types.size := fun t ht => by
    have := List.all_eq_true.1 hts t ht
    rw [Bool.and_eq_true] at this
    exact ⟨this.1, of_decide_eq_true this.2⟩
  refine ⟨_, rfl, ds, [], p ++ [], [], p, [], hW', ?_, ?_, ?_, bel.frame _, fun h => by cases h⟩
  · rw [e1, hres]
    exact trodAll_mk1 (shut_bool Tryz.underlying4 _)
  · rw [e1]
    exact args_again try_laidOut bel _ _ _ _ hpp hA hlt
  · rw [e1, hvars]
    rfl
end Go.Proofs.YtamcehfcjcmpmaaGreatDoor
