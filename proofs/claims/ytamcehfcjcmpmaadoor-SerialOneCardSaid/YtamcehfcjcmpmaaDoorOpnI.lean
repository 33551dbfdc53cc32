/- Arguments opened: lists of calls with their groups' groups; lists of numbers. -/
import Derived.Test.YtamcehfcjcmpmaaDoorOne
namespace Go.Proofs.YtamcehfcjcmpmaaDoor
open Go.RowKit Go.Deep Go.ChangeShapes Go.WideShapes

section
variable {H : Type} {en : TypeId × Value → H} {w : World} {sp : Nat → Bool} {held : Bool}
set_option maxRecDepth 100000 in
theorem trod_call_deep {n : Nat} {cs : List Value} {y : DataW H × List MemPlace} (h : DataW.trod en Tryd.prog w 0 sp held n 33 cs = some y) :
    ∃ c : Call0, cs = c.enc ∧ ∃ g, CallIn w w.heap.size c g ∧ ∀ x ∈ g, ∃ g', CallIn w w.heap.size x g' := by
  obtain ⟨c, hc, m, z, hz⟩ := trod_call h
  obtain ⟨A, l, cc, h1, h2, h3, h4, h5⟩ := arr_open Tryd.underlying26 (k := 5) (by kernel_rfl) (by omega) Call0.enc_len (fun c => ∃ g, CallIn w w.heap.size c g) (fun n cs y hy => trod_call_in hy) hz
  injection h1 with e1 e2 e3
  exact ⟨c, hc, l, ⟨e1 ▸ h2, e2, e3 ▸ h3, e3 ▸ h4⟩, h5⟩
theorem choose_deep : ∀ (l : List Call0), (∀ c ∈ l, ∃ g, CallIn w w.heap.size c g ∧ ∀ x ∈ g, ∃ g', CallIn w w.heap.size x g') → ∃ gs : List (List Call0), gs.length = l.length ∧ (∀ i (h : i < l.length) (h' : i < gs.length), CallIn w w.heap.size l[i] gs[i]) ∧ ∀ i (h : i < gs.length), ∀ z ∈ gs[i], ∃ g, CallIn w w.heap.size z g
  | [], _ => ⟨[], rfl, fun i h => absurd h (by simp), fun i h => absurd h (by simp)⟩
  | c :: l, hc => by
    obtain ⟨g, hg, hd⟩ := hc c (by simp)
    obtain ⟨gs, h1, h2, h3⟩ := choose_deep l fun x hx => hc x (by simp [hx])
    refine ⟨g :: gs, by simp [h1], fun i h h' => ?_, fun i h => ?_⟩
    · cases i with
      | zero => exact hg
      | succ i => exact h2 i (by simpa using h) (by simpa using h')
    · cases i with
      | zero => exact hd
      | succ i => exact h3 i (by simpa using h)
set_option maxRecDepth 100000 in
theorem open_calls_deep {r : Reach} {b0 : Nat} {v : Value} {d : DataW H} {p : List MemPlace} (hv : Value.okWide Tryd.prog w r b0 26 v) (h : DataW.Trod en Tryd.prog w 0 sp held 26 v d p) :
    ∃ (l : List Call0) (gs : List (List Call0)) (A : Option Addr) (c : Nat), v = .slice A l.length c ∧ CallsIn w w.heap.size A c l gs ∧ ∀ i (h : i < gs.length), ∀ z ∈ gs[i], ∃ g, CallIn w w.heap.size z g := by
  obtain ⟨a, len, cap, rfl⟩ := okWide_slice Tryd.underlying26 hv
  obtain ⟨fuel, hf⟩ := h
  have hf' : DataW.trod en Tryd.prog w 0 sp held fuel 26 [.slice a len cap] = some (d, p) := by simpa [Value.cells] using hf
  obtain ⟨A, l, c, h1, h2, h3, h4, h5⟩ := arr_open Tryd.underlying26 (k := 5) (by kernel_rfl) (by omega) Call0.enc_len (fun c => ∃ g, CallIn w w.heap.size c g ∧ ∀ x ∈ g, ∃ g', CallIn w w.heap.size x g') (fun n cs y hy => trod_call_deep hy) hf'
  obtain ⟨gs, g1, g2, g3⟩ := choose_deep l h5
  exact ⟨l, gs, A, c, h1, ⟨h2, h3, h4, g1, g2⟩, g3⟩
theorem numZ_len (n : Int) : (numZ n).length = 1 := rfl
set_option maxRecDepth 100000 in
theorem open_ints {r : Reach} {b0 : Nat} {v : Value} {d : DataW H} {p : List MemPlace} (hv : Value.okWide Tryd.prog w r b0 27 v) (h : DataW.Trod en Tryd.prog w 0 sp held 27 v d p) :
    ∃ (l : List Int) (A : Option Addr) (c : Nat), v = .slice A l.length c ∧ Arr numZ 1 w w.heap.size A l ∧ l.length ≤ c ∧ c ≤ 9223372036854775807 := by
  obtain ⟨a, len, cap, rfl⟩ := okWide_slice Tryd.underlying27 hv
  obtain ⟨fuel, hf⟩ := h
  have hf' : DataW.trod en Tryd.prog w 0 sp held fuel 27 [.slice a len cap] = some (d, p) := by simpa [Value.cells] using hf
  obtain ⟨A, l, c, h1, h2, h3, h4, -⟩ := arr_open (α := Int) Tryd.underlying27 (k := 1) (by kernel_rfl) (by omega) numZ_len (fun _ => True) (fun n cs y hy => by
    obtain ⟨n0, e0, _, _⟩ := DataW.trod_int Tryd.underlying3 hy
    exact ⟨n0, e0, trivial⟩) hf'
  exact ⟨l, A, c, h1, h2, h3, h4⟩
end
end Go.Proofs.YtamcehfcjcmpmaaDoor
