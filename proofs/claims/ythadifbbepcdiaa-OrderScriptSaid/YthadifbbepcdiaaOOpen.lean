/- Arguments opened: links, lists of acts. -/
import Derived.Test.YthadifbbepcdiaaOPlay
import Derived.WalkKit
import Derived.ProofKit
import Derived.Deep.Slices
namespace Go.Proofs.Ythadifbbepcdiaa
open Go.RowKit Go.Deep Go.ChangeShapes Go.WideShapes

theorem arr_open {α : Type} [Inhabited α] {enc : α → List Value} {k : Nat} {H : Type} {en : TypeId × Value → H} {P : Program} {w : World} {sp : Nat → Bool} {held : Bool} {fuel : Nat} {t e : TypeId} {v : Value} {x : DataW H × List MemPlace}
    (ht : P.underlying t = some (.slice e)) (hk : P.cellsOf e = k) (hk0 : 0 < k) (henc : ∀ a, (enc a).length = k) (Q : α → Prop) (hel : ∀ n cs y, DataW.trod en P w 0 sp held n e cs = some y → ∃ a : α, cs = enc a ∧ Q a)
    (h : DataW.trod en P w 0 sp held fuel t [v] = some x) :
    ∃ (A : Option Addr) (l : List α) (c : Nat), v = .slice A l.length c ∧ Arr enc k w w.heap.size A l ∧ l.length ≤ c ∧ c ≤ 9223372036854775807 ∧ ∀ a ∈ l, Q a := by
  rcases open_slice ht h with ⟨h0, _⟩ | ⟨a, len, cap, m, n, D, Pl, h0, _, hl, hm, hmm, _, hx⟩
  · cases h0
    exact ⟨none, [], 0, rfl, Arr.nil, Nat.le_refl _, by omega, by simp⟩
  · cases h0
    have hlm : len ≤ m := by rw [hmm]; split <;> omega
    obtain ⟨f, hf⟩ := choose_lt (α := α) (n := len) (p := fun i b => w.cells? 0 (a.add (i * P.cellsOf e)) (P.cellsOf e) = some (enc b) ∧ Q b) (fun i hi => by
      obtain ⟨cs', h1, h2⟩ := hx i (by omega)
      obtain ⟨b, rfl, hq⟩ := hel _ _ _ h2
      exact ⟨b, h1, hq⟩)
    have hcap : cap ≤ 9223372036854775807 := by unfold maxLen at hm; omega
    refine ⟨some a, (List.range len).map f, cap, by simp, ?_, by simpa using hl, hcap, ?_⟩
    · rcases Nat.eq_zero_or_pos len with h0 | h0
      · exact .inl (by simp [h0])
      · have hc : ∀ i, i < len → ∀ j (u : Value), (enc (f i))[j]? = some u → w.cell? ((a.add (i * k)).add j) = some u := fun i hi j u hu => by
          obtain ⟨_, _, h3⟩ := World.cells?_some (hf i hi).1
          rw [hk] at h3
          have hj := (List.getElem?_eq_some_iff.1 hu).1
          rw [henc] at hj
          rw [h3 j hj]
          exact hu
        have h00 := hc 0 h0 0 _ (List.getElem?_eq_getElem (by rw [henc]; exact hk0))
        obtain ⟨b, off, spot⟩ := a
        have hspot : spot = none := by simpa [Addr.add] using World.cell?_spot h00
        subst hspot
        have hb := block_lt_of_cell h00
        simp [Addr.add] at hb
        refine .inr ⟨b, off, rfl, hb, fun i hi j u hu => ?_⟩
        simp at hi
        have := hc i hi j u (by simpa using hu)
        rw [Addr.add_lit, Addr.add_lit] at this
        exact this
    · intro b hb
      simp only [List.mem_map, List.mem_range] at hb
      obtain ⟨i, hi, rfl⟩ := hb
      exact (hf i hi).2


section
variable {H : Type} {en : TypeId × Value → H} {w : World} {sp : Nat → Bool} {held : Bool}
theorem list4 {α : Type} {l : List α} (h : l.length = 4) : ∃ a b c d, l = [a, b, c, d] := by
  match l, h with
  | [a, b, c, d], _ => exact ⟨a, b, c, d, rfl⟩
theorem list5 {α : Type} {l : List α} (h : l.length = 5) : ∃ a b c d e, l = [a, b, c, d, e] := by
  match l, h with
  | [a, b, c, d, e], _ => exact ⟨a, b, c, d, e, rfl⟩
theorem list8 {α : Type} {l : List α} (h : l.length = 8) : ∃ a b c d e f g i, l = [a, b, c, d, e, f, g, i] := by
  match l, h with
  | [a, b, c, d, e, f, g, i], _ => exact ⟨a, b, c, d, e, f, g, i, rfl⟩
theorem trod_link {n : Nat} {cs : List Value} {y : DataW H × List MemPlace} (h : DataW.trod en Try.prog w 0 sp held n 29 cs = some y) : ∃ a : Link, cs = a.enc := by
  obtain ⟨xs, m, _, rfl, hl, hlen, hf⟩ := DataW.trod_struct Try.underlying29 h
  obtain ⟨c0, c1, c2, c3, c4, rfl⟩ := list5 (hl.trans (by kernel_rfl))
  obtain ⟨y0, y1, y2, y3, y4, rfl⟩ := list5 hlen
  have ki : Try.prog.cellsOf 3 = 1 := by kernel_rfl
  have ks : Try.prog.cellsOf 9 = 1 := by kernel_rfl
  have ku : Try.prog.cellsOf 27 = 1 := by kernel_rfl
  have f0 : DataW.trod en Try.prog w 0 sp held m 9 [c0] = some y0 := by simpa [ks] using hf 0 _ rfl
  have f1 : DataW.trod en Try.prog w 0 sp held m 27 [c1] = some y1 := by simpa [ku] using hf 1 _ rfl
  have f2 : DataW.trod en Try.prog w 0 sp held m 27 [c2] = some y2 := by simpa [ku] using hf 2 _ rfl
  have f3 : DataW.trod en Try.prog w 0 sp held m 3 [c3] = some y3 := by simpa [ki] using hf 3 _ rfl
  have f4 : DataW.trod en Try.prog w 0 sp held m 3 [c4] = some y4 := by simpa [ki] using hf 4 _ rfl
  obtain ⟨s0, e0, _, _⟩ := DataW.trod_string Try.underlying9 f0
  obtain ⟨n1, e1, _, _⟩ := DataW.trod_int Try.underlying27 f1
  obtain ⟨n2, e2, _, _⟩ := DataW.trod_int Try.underlying27 f2
  obtain ⟨n3, e3, _, _⟩ := DataW.trod_int Try.underlying3 f3
  obtain ⟨n4, e4, _, _⟩ := DataW.trod_int Try.underlying3 f4
  cases e0; cases e1; cases e2; cases e3; cases e4
  exact ⟨⟨s0, n1, n2, n3, n4⟩, rfl⟩
set_option maxRecDepth 100000 in
theorem open_link {r : Reach} {b0 : Nat} {v : Value} {d : DataW H} {p : List MemPlace} (hv : Value.okWide Try.prog w r b0 29 v) (h : DataW.Trod en Try.prog w 0 sp held 29 v d p) :
    ∃ x : Link, v = .agg #[.string x.key, .int .u64 x.id, .int .u64 x.ver, .int .i64 x.line, .int .i64 x.cls] := by
  obtain ⟨cs, rfl, hsz⟩ := okWide_struct Try.underlying29 hv
  obtain ⟨fuel, hf⟩ := h
  obtain ⟨x, hx⟩ := trod_link hf
  refine ⟨x, ?_⟩
  have : cs = x.enc.toArray := by
    apply Array.toList_inj.1
    simpa [Value.cells] using hx
  rw [this]
  rfl
instance : Inhabited ActR := ⟨⟨0, link0, 0, false⟩⟩
theorem trod_act {n : Nat} {cs : List Value} {y : DataW H × List MemPlace} (h : DataW.trod en Try.prog w 0 sp held n 40 cs = some y) : ∃ a : ActR, cs = a.enc ∧ True := by
  obtain ⟨xs, m, _, rfl, hl, hlen, hf⟩ := DataW.trod_struct Try.underlying40 h
  obtain ⟨c0, c1, c2, c3, c4, c5, c6, c7, rfl⟩ := list8 (hl.trans (by kernel_rfl))
  obtain ⟨y0, y1, y2, y3, rfl⟩ := list4 hlen
  have ki : Try.prog.cellsOf 3 = 1 := by kernel_rfl
  have kl : Try.prog.cellsOf 29 = 5 := by kernel_rfl
  have kb : Try.prog.cellsOf 4 = 1 := by kernel_rfl
  have f0 : DataW.trod en Try.prog w 0 sp held m 3 [c0] = some y0 := by simpa [ki, kl, kb] using hf 0 _ rfl
  have f1 : DataW.trod en Try.prog w 0 sp held m 29 [c1, c2, c3, c4, c5] = some y1 := by simpa [ki, kl, kb] using hf 1 _ rfl
  have f2 : DataW.trod en Try.prog w 0 sp held m 3 [c6] = some y2 := by simpa [ki, kl, kb] using hf 2 _ rfl
  have f3 : DataW.trod en Try.prog w 0 sp held m 4 [c7] = some y3 := by simpa [ki, kl, kb] using hf 3 _ rfl
  obtain ⟨n0, e0, _, _⟩ := DataW.trod_int Try.underlying3 f0
  obtain ⟨x, hx⟩ := trod_link f1
  obtain ⟨n2, e2, _, _⟩ := DataW.trod_int Try.underlying3 f2
  obtain ⟨b3, e3, _, _⟩ := DataW.trod_bool Try.underlying4 f3
  cases e0; cases e2; cases e3
  simp only [Link.enc, List.cons.injEq, and_true] at hx
  obtain ⟨rfl, rfl, rfl, rfl, rfl⟩ := hx
  exact ⟨⟨n0, x, n2, b3⟩, rfl, trivial⟩
set_option maxRecDepth 100000 in
theorem open_acts {r : Reach} {b0 : Nat} {v : Value} {d : DataW H} {p : List MemPlace} (hv : Value.okWide Try.prog w r b0 22 v) (h : DataW.Trod en Try.prog w 0 sp held 22 v d p) :
    ∃ (l : List ActR) (A : Option Addr) (c : Nat), v = .slice A l.length c ∧ ActsIn w w.heap.size A c l := by
  obtain ⟨a, len, cap, rfl⟩ := okWide_slice Try.underlying22 hv
  obtain ⟨fuel, hf⟩ := h
  have hf' : DataW.trod en Try.prog w 0 sp held fuel 22 [.slice a len cap] = some (d, p) := by simpa [Value.cells] using hf
  obtain ⟨A, l, c, h1, h2, h3, h4, h5⟩ := arr_open Try.underlying22 (k := 8) (by kernel_rfl) (by omega) ActR.enc_len (fun _ => True) (fun n cs y hy => trod_act hy) hf'
  exact ⟨l, A, c, h1, h2, h3, h4⟩
end
end Go.Proofs.Ythadifbbepcdiaa
