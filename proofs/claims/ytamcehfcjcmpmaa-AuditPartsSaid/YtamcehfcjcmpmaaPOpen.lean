/- Arguments opened: lists of numbers. -/
import Derived.Test.YtamcehfcjcmpmaaAParts
import Derived.WalkKit
import Derived.ProofKit
import Derived.Deep.Slices
namespace Go.Proofs.Ytamcehfcjcmpmaa
open Go.RowKit Go.Deep Go.ChangeShapes Go.WideShapes

theorem arr_open {α : Type} [Inhabited α] {enc : α → List Value} {k : Nat} {H : Type} {en : TypeId × Value → H} {P : Program} {w : World} {sp : Nat → Bool} {held : Bool} {fuel : Nat} {t e : TypeId} {v : Value} {x : DataW H × List MemPlace}
    (ht : P.underlying t = some (.slice e)) (hk : P.cellsOf e = k) (hk0 : 0 < k) (henc : ∀ a, (enc a).length = k) (Q : α → Prop) (hel : ∀ n cs y, DataW.trod en P w 0 sp held n e cs = some y → ∃ a : α, cs = enc a ∧ Q a)
    (h : DataW.trod en P w 0 sp held fuel t [v] = some x) :
    ∃ (A : Option Addr) (l : List α) (c : Nat), v = .slice A l.length c ∧ Arr enc k w w.heap.size A l ∧ l.length ≤ c ∧ c ≤ 9223372036854775807 ∧ ∀ a ∈ l, Q a := by
  rcases open_slice ht h with ⟨h0, _⟩ | ⟨a, len, cap, m, n, D, Pl, h0, _, hl, hm, hmm, _, hx⟩
  · cases h0
    exact ⟨none, [], 0, rfl, Arr.nil, Nat.le_refl _, by omega, by simp⟩
  · cases h0
    have hlm : len ≤ m := by rw [hmm]; split <;> omega
    obtain ⟨f, hf⟩ := choose_lt (α := α) (n := len) (p := fun i b => w.cells? 0 (a.add (i * P.cellsOf e)) (P.cellsOf e) = some (enc b) ∧ Q b) (fun i hi => by
      obtain ⟨cs', h1, h2⟩ := hx i (by omega)
      obtain ⟨b, rfl, hq⟩ := hel _ _ _ h2
      exact ⟨b, h1, hq⟩)
    have hcap : cap ≤ 9223372036854775807 := by unfold maxLen at hm; omega
    refine ⟨some a, (List.range len).map f, cap, by simp, ?_, by simpa using hl, hcap, ?_⟩
    · rcases Nat.eq_zero_or_pos len with h0 | h0
      · exact .inl (by simp [h0])
      · have hc : ∀ i, i < len → ∀ j (u : Value), (enc (f i))[j]? = some u → w.cell? ((a.add (i * k)).add j) = some u := fun i hi j u hu => by
          obtain ⟨_, _, h3⟩ := World.cells?_some (hf i hi).1
          rw [hk] at h3
          have hj := (List.getElem?_eq_some_iff.1 hu).1
          rw [henc] at hj
          rw [h3 j hj]
          exact hu
        have h00 := hc 0 h0 0 _ (List.getElem?_eq_getElem (by rw [henc]; exact hk0))
        obtain ⟨b, off, spot⟩ := a
        have hspot : spot = none := by simpa [Addr.add] using World.cell?_spot h00
        subst hspot
        have hb := block_lt_of_cell h00
        simp [Addr.add] at hb
        refine .inr ⟨b, off, rfl, hb, fun i hi j u hu => ?_⟩
        simp at hi
        have := hc i hi j u (by simpa using hu)
        rw [Addr.add_lit, Addr.add_lit] at this
        exact this
    · intro b hb
      simp only [List.mem_map, List.mem_range] at hb
      obtain ⟨i, hi, rfl⟩ := hb
      exact (hf i hi).2


set_option maxRecDepth 100000 in
theorem open_numbers {H : Type} {en : TypeId × Value → H} {w : World} {sp : Nat → Bool} {held : Bool} {r : Reach} {b0 : Nat} {v : Value} {d : DataW H} {p : List MemPlace} (hv : Value.okWide Try.prog w r b0 22 v) (h : DataW.Trod en Try.prog w 0 sp held 22 v d p) :
    ∃ (l : List Int) (A : Option Addr) (c : Nat), v = .slice A l.length c ∧ IntsIn w w.heap.size A c l := by
  obtain ⟨a, len, cap, rfl⟩ := okWide_slice Try.underlying22 hv
  obtain ⟨fuel, hf⟩ := h
  have hf' : DataW.trod en Try.prog w 0 sp held fuel 22 [.slice a len cap] = some (d, p) := by simpa [Value.cells] using hf
  obtain ⟨A, l, c, h1, h2, h3, h4, _⟩ := arr_open Try.underlying22 (k := 1) (by kernel_rfl) (by omega) intE_len (fun _ => True) (fun n cs y hy => by
    obtain ⟨m, e, _, _⟩ := DataW.trod_int Try.underlying3 hy
    exact ⟨m, e, trivial⟩) hf'
  exact ⟨l, A, c, h1, h2, h3, h4⟩
end Go.Proofs.Ytamcehfcjcmpmaa
