/- Arguments opened: lists of calls, each with its own group. -/
import Derived.Test.YthpegmeebhkhbaaOpen
import Derived.Test.YthpegmeebhkhbaaIRises
namespace Go.Proofs.Ythpegmeebhkhbaa
open Go.RowKit Go.Deep Go.ChangeShapes Go.WideShapes

section
variable {H : Type} {en : TypeId × Value → H} {w : World} {sp : Nat → Bool} {held : Bool}
set_option maxRecDepth 100000 in
theorem trod_call_in {n : Nat} {cs : List Value} {y : DataW H × List MemPlace} (h : DataW.trod en Try.prog w 0 sp held n 50 cs = some y) :
    ∃ c : Call0, cs = c.enc ∧ ∃ g, CallIn w w.heap.size c g := by
  obtain ⟨c, hc, m, z, hz⟩ := trod_call h
  obtain ⟨A, l, cc, h1, h2, h3, h4, _⟩ := arr_open Try.underlying48 (k := 5) (by kernel_rfl) (by omega) Call0.enc_len (fun _ => True) (fun n cs y hy => by
    obtain ⟨a, ha, _⟩ := trod_call hy
    exact ⟨a, ha, trivial⟩) hz
  injection h1 with e1 e2 e3
  exact ⟨c, hc, l, ⟨e1 ▸ h2, e2, e3 ▸ h3, e3 ▸ h4⟩⟩
theorem choose_groups : ∀ (l : List Call0), (∀ c ∈ l, ∃ g, CallIn w w.heap.size c g) → ∃ gs : List (List Call0), gs.length = l.length ∧ ∀ i (h : i < l.length) (h' : i < gs.length), CallIn w w.heap.size l[i] gs[i]
  | [], _ => ⟨[], rfl, fun i h => absurd h (by simp)⟩
  | c :: l, hc => by
    obtain ⟨g, hg⟩ := hc c (by simp)
    obtain ⟨gs, h1, h2⟩ := choose_groups l fun x hx => hc x (by simp [hx])
    refine ⟨g :: gs, by simp [h1], fun i h h' => ?_⟩
    match i with
    | 0 => exact hg
    | i + 1 => exact h2 i (by simpa using h) (by simpa using h')
set_option maxRecDepth 100000 in
theorem open_calls {r : Reach} {b0 : Nat} {v : Value} {d : DataW H} {p : List MemPlace} (hv : Value.okWide Try.prog w r b0 48 v) (h : DataW.Trod en Try.prog w 0 sp held 48 v d p) :
    ∃ (l : List Call0) (gs : List (List Call0)) (A : Option Addr) (c : Nat), v = .slice A l.length c ∧ CallsIn w w.heap.size A c l gs := by
  obtain ⟨a, len, cap, rfl⟩ := okWide_slice Try.underlying48 hv
  obtain ⟨fuel, hf⟩ := h
  have hf' : DataW.trod en Try.prog w 0 sp held fuel 48 [.slice a len cap] = some (d, p) := by simpa [Value.cells] using hf
  obtain ⟨A, l, c, h1, h2, h3, h4, h5⟩ := arr_open Try.underlying48 (k := 5) (by kernel_rfl) (by omega) Call0.enc_len (fun c => ∃ g, CallIn w w.heap.size c g) (fun n cs y hy => trod_call_in hy) hf'
  obtain ⟨gs, g1, g2⟩ := choose_groups l h5
  exact ⟨l, gs, A, c, h1, ⟨h2, h3, h4, g1, g2⟩⟩
set_option maxRecDepth 100000 in
theorem open_call_deep {r : Reach} {b0 : Nat} {v : Value} {d : DataW H} {p : List MemPlace} (hv : Value.okWide Try.prog w r b0 50 v) (h : DataW.Trod en Try.prog w 0 sp held 50 v d p) :
    ∃ (c : Call0) (g : List Call0), v = .agg #[.int .i64 c.kind, .string c.key, .string c.val, .string c.to, .slice c.gA c.gn c.gc] ∧ CallIn w w.heap.size c g ∧ ∀ x ∈ g, ∃ g', CallIn w w.heap.size x g' := by
  obtain ⟨cs, rfl, hsz⟩ := okWide_struct Try.underlying50 hv
  obtain ⟨fuel, hf⟩ := h
  obtain ⟨c, hc, m, z, hz⟩ := trod_call hf
  obtain ⟨A, l, cc, h1, h2, h3, h4, h5⟩ := arr_open Try.underlying48 (k := 5) (by kernel_rfl) (by omega) Call0.enc_len (fun c => ∃ g, CallIn w w.heap.size c g) (fun n cs y hy => trod_call_in hy) hz
  injection h1 with e1 e2 e3
  refine ⟨c, l, ?_, ⟨e1 ▸ h2, e2, e3 ▸ h3, e3 ▸ h4⟩, h5⟩
  have : cs = c.enc.toArray := by
    apply Array.toList_inj.1
    simpa [Value.cells] using hc
  rw [this]
  rfl
end
end Go.Proofs.Ythpegmeebhkhbaa
