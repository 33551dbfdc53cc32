/- Arguments opened: lists of effects. -/
import Derived.Test.YthpegmeebhkhbaaOpen
import Derived.Test.YthpegmeebhkhbaaRep
namespace Go.Proofs.Ythpegmeebhkhbaa
open Go.RowKit Go.Deep Go.ChangeShapes Go.WideShapes

theorem list7 {α : Type} {l : List α} (h : l.length = 7) : ∃ a b c d e f g, l = [a, b, c, d, e, f, g] := by
  match l, h with
  | [a, b, c, d, e, f, g], _ => exact ⟨a, b, c, d, e, f, g, rfl⟩
instance : Inhabited Eff := ⟨⟨0, ByteArray.empty, ByteArray.empty, 0, 0, 0, 0⟩⟩
section
variable {H : Type} {en : TypeId × Value → H} {w : World} {sp : Nat → Bool} {held : Bool}
theorem trod_eff {n : Nat} {cs : List Value} {y : DataW H × List MemPlace} (h : DataW.trod en Try.prog w 0 sp held n 86 cs = some y) : ∃ a : Eff, cs = a.enc ∧ (Lit.int .i64 a.group).wf = true := by
  obtain ⟨xs, m, _, rfl, hl, hlen, hf⟩ := DataW.trod_struct Try.underlying86 h
  obtain ⟨c0, c1, c2, c3, c4, c5, c6, rfl⟩ := list7 (hl.trans (by kernel_rfl))
  obtain ⟨y0, y1, y2, y3, y4, y5, y6, rfl⟩ := list7 hlen
  have ki : Try.prog.cellsOf 3 = 1 := by kernel_rfl
  have ks : Try.prog.cellsOf 9 = 1 := by kernel_rfl
  have ku : Try.prog.cellsOf 43 = 1 := by kernel_rfl
  have f0 : DataW.trod en Try.prog w 0 sp held m 3 [c0] = some y0 := by simpa [ki] using hf 0 _ rfl
  have f1 : DataW.trod en Try.prog w 0 sp held m 9 [c1] = some y1 := by simpa [ks] using hf 1 _ rfl
  have f2 : DataW.trod en Try.prog w 0 sp held m 9 [c2] = some y2 := by simpa [ks] using hf 2 _ rfl
  have f3 : DataW.trod en Try.prog w 0 sp held m 43 [c3] = some y3 := by simpa [ku] using hf 3 _ rfl
  have f4 : DataW.trod en Try.prog w 0 sp held m 43 [c4] = some y4 := by simpa [ku] using hf 4 _ rfl
  have f5 : DataW.trod en Try.prog w 0 sp held m 43 [c5] = some y5 := by simpa [ku] using hf 5 _ rfl
  have f6 : DataW.trod en Try.prog w 0 sp held m 3 [c6] = some y6 := by simpa [ki] using hf 6 _ rfl
  obtain ⟨n0, e0, _, _⟩ := DataW.trod_int Try.underlying3 f0
  obtain ⟨s1, e1, _, _⟩ := DataW.trod_string Try.underlying9 f1
  obtain ⟨s2, e2, _, _⟩ := DataW.trod_string Try.underlying9 f2
  obtain ⟨n3, e3, _, _⟩ := DataW.trod_int Try.underlying43 f3
  obtain ⟨n4, e4, _, _⟩ := DataW.trod_int Try.underlying43 f4
  obtain ⟨n5, e5, _, _⟩ := DataW.trod_int Try.underlying43 f5
  obtain ⟨n6, e6, h6, h6'⟩ := DataW.trod_int Try.underlying3 f6
  cases e0; cases e1; cases e2; cases e3; cases e4; cases e5; cases e6
  exact ⟨⟨n0, s1, s2, n3, n4, n5, n6⟩, rfl, by first | exact h6 | exact h6' | exact h6.1 | exact h6.2⟩
set_option maxRecDepth 100000 in
theorem open_effs {r : Reach} {b0 : Nat} {v : Value} {d : DataW H} {p : List MemPlace} (hv : Value.okWide Try.prog w r b0 36 v) (h : DataW.Trod en Try.prog w 0 sp held 36 v d p) :
    ∃ (l : List Eff) (A : Option Addr) (c : Nat), v = .slice A l.length c ∧ Arr Eff.enc 7 w w.heap.size A l ∧ l.length ≤ c ∧ c ≤ 9223372036854775807 ∧ ∀ x ∈ l, (Lit.int .i64 x.group).wf = true := by
  obtain ⟨a, len, cap, rfl⟩ := okWide_slice Try.underlying36 hv
  obtain ⟨fuel, hf⟩ := h
  have hf' : DataW.trod en Try.prog w 0 sp held fuel 36 [.slice a len cap] = some (d, p) := by simpa [Value.cells] using hf
  obtain ⟨A, l, c, h1, h2, h3, h4, h5⟩ := arr_open Try.underlying36 (k := 7) (by kernel_rfl) (by omega) Eff.enc_len (fun c => (Lit.int .i64 c.group).wf = true) (fun n cs y hy => trod_eff hy) hf'
  exact ⟨l, A, c, h1, h2, h3, h4, h5⟩
end
end Go.Proofs.Ythpegmeebhkhbaa
