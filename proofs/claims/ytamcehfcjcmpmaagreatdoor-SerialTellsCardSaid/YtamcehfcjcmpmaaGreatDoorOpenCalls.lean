/- Arguments opened: lists of calls, each with its own group. -/
import Derived.Test.YtamcehfcjcmpmaaGreatDoorIdl6
import Derived.Test.YtamcehfcjcmpmaaGreatDoorIdl2
import Derived.WalkKit
import Derived.ProofKit
import Derived.Deep.Slices
/- Arguments opened: slices of things of k cells, calls, stores. -/
namespace Go.Proofs.YtamcehfcjcmpmaaGreatDoor
open Go.RowKit Go.Deep Go.ChangeShapes Go.WideShapes

theorem arr_open {α : Type} [Inhabited α] {enc : α → List Value} {k : Nat} {H : Type} {en : TypeId × Value → H} {P : Program} {w : World} {sp : Nat → Bool} {held : Bool} {fuel : Nat} {t e : TypeId} {v : Value} {x : DataW H × List MemPlace}
    (ht : P.underlying t = some (.slice e)) (hk : P.cellsOf e = k) (hk0 : 0 < k) (henc : ∀ a, (enc a).length = k) (Q : α → Prop) (hel : ∀ n cs y, DataW.trod en P w 0 sp held n e cs = some y → ∃ a : α, cs = enc a ∧ Q a)
    (h : DataW.trod en P w 0 sp held fuel t [v] = some x) :
    ∃ (A : Option Addr) (l : List α) (c : Nat), v = .slice A l.length c ∧ Arr enc k w w.heap.size A l ∧ l.length ≤ c ∧ c ≤ 9223372036854775807 ∧ ∀ a ∈ l, Q a := by
  rcases open_slice ht h with ⟨h0, _⟩ | ⟨a, len, cap, m, n, D, Pl, h0, _, hl, hm, hmm, _, hx⟩
  · cases h0
    exact ⟨none, [], 0, rfl, Arr.nil, Nat.le_refl _, by omega, by simp⟩
  · cases h0
    have hlm : len ≤ m := by rw [hmm]; split <;> omega
    obtain ⟨f, hf⟩ := choose_lt (α := α) (n := len) (p := fun i b => w.cells? 0 (a.add (i * P.cellsOf e)) (P.cellsOf e) = some (enc b) ∧ Q b) (fun i hi => by
      obtain ⟨cs', h1, h2⟩ := hx i (by omega)
      obtain ⟨b, rfl, hq⟩ := hel _ _ _ h2
      exact ⟨b, h1, hq⟩)
    have hcap : cap ≤ 9223372036854775807 := by unfold maxLen at hm; omega
    refine ⟨some a, (List.range len).map f, cap, by simp, ?_, by simpa using hl, hcap, ?_⟩
    · rcases Nat.eq_zero_or_pos len with h0 | h0
      · exact .inl (by simp [h0])
      · have hc : ∀ i, i < len → ∀ j (u : Value), (enc (f i))[j]? = some u → w.cell? ((a.add (i * k)).add j) = some u := fun i hi j u hu => by
          obtain ⟨_, _, h3⟩ := World.cells?_some (hf i hi).1
          rw [hk] at h3
          have hj := (List.getElem?_eq_some_iff.1 hu).1
          rw [henc] at hj
          rw [h3 j hj]
          exact hu
        have h00 := hc 0 h0 0 _ (List.getElem?_eq_getElem (by rw [henc]; exact hk0))
        obtain ⟨b, off, spot⟩ := a
        have hspot : spot = none := by simpa [Addr.add] using World.cell?_spot h00
        subst hspot
        have hb := block_lt_of_cell h00
        simp [Addr.add] at hb
        refine .inr ⟨b, off, rfl, hb, fun i hi j u hu => ?_⟩
        simp at hi
        have := hc i hi j u (by simpa using hu)
        rw [Addr.add_lit, Addr.add_lit] at this
        exact this
    · intro b hb
      simp only [List.mem_map, List.mem_range] at hb
      obtain ⟨i, hi, rfl⟩ := hb
      exact (hf i hi).2

section
variable {H : Type} {en : TypeId × Value → H} {w : World} {sp : Nat → Bool} {held : Bool}
theorem list2 {α : Type} {l : List α} (h : l.length = 2) : ∃ a b, l = [a, b] := by
  match l, h with
  | [a, b], _ => exact ⟨a, b, rfl⟩
theorem list5 {α : Type} {l : List α} (h : l.length = 5) : ∃ a b c d e, l = [a, b, c, d, e] := by
  match l, h with
  | [a, b, c, d, e], _ => exact ⟨a, b, c, d, e, rfl⟩
theorem trod_call {n : Nat} {cs : List Value} {y : DataW H × List MemPlace} (h : DataW.trod en Tryz.prog w 0 sp held n 46 cs = some y) :
    ∃ c : Call0, cs = c.enc ∧ ∃ m z, DataW.trod en Tryz.prog w 0 sp held m 44 [.slice c.gA c.gn c.gc] = some z := by
  obtain ⟨xs, m, _, rfl, hl, hlen, hf⟩ := DataW.trod_struct Tryz.underlying46 h
  obtain ⟨c0, c1, c2, c3, c4, rfl⟩ := list5 (hl.trans (by kernel_rfl))
  obtain ⟨y0, y1, y2, y3, y4, rfl⟩ := list5 hlen
  have k3 : Tryz.prog.cellsOf 3 = 1 := by kernel_rfl
  have k9 : Tryz.prog.cellsOf 9 = 1 := by kernel_rfl
  have k48 : Tryz.prog.cellsOf 44 = 1 := by kernel_rfl
  have f0 : DataW.trod en Tryz.prog w 0 sp held m 3 [c0] = some y0 := by simpa [k3] using hf 0 _ rfl
  have f1 : DataW.trod en Tryz.prog w 0 sp held m 9 [c1] = some y1 := by simpa [k9] using hf 1 _ rfl
  have f2 : DataW.trod en Tryz.prog w 0 sp held m 9 [c2] = some y2 := by simpa [k9] using hf 2 _ rfl
  have f3 : DataW.trod en Tryz.prog w 0 sp held m 9 [c3] = some y3 := by simpa [k9] using hf 3 _ rfl
  have f4 : DataW.trod en Tryz.prog w 0 sp held m 44 [c4] = some y4 := by simpa [k48] using hf 4 _ rfl
  obtain ⟨n0, e0, _, _⟩ := DataW.trod_int Tryz.underlying3 f0
  obtain ⟨s1, e1, _, _⟩ := DataW.trod_string Tryz.underlying9 f1
  obtain ⟨s2, e2, _, _⟩ := DataW.trod_string Tryz.underlying9 f2
  obtain ⟨s3, e3, _, _⟩ := DataW.trod_string Tryz.underlying9 f3
  cases e0; cases e1; cases e2; cases e3
  rcases open_slice Tryz.underlying44 f4 with ⟨h0, _⟩ | ⟨a, len, cap, _, _, _, _, h0, _⟩
  · cases h0
    exact ⟨⟨n0, s1, s2, s3, none, 0, 0⟩, rfl, m, _, f4⟩
  · cases h0
    exact ⟨⟨n0, s1, s2, s3, some a, len, cap⟩, rfl, m, _, f4⟩
set_option maxRecDepth 100000 in
theorem open_call {r : Reach} {b0 : Nat} {v : Value} {d : DataW H} {p : List MemPlace} (hv : Value.okWide Tryz.prog w r b0 46 v) (h : DataW.Trod en Tryz.prog w 0 sp held 46 v d p) :
    ∃ (c : Call0) (g : List Call0), v = .agg #[.int .i64 c.kind, .string c.key, .string c.val, .string c.to, .slice c.gA c.gn c.gc] ∧ CallIn w w.heap.size c g := by
  obtain ⟨cs, rfl, hsz⟩ := okWide_struct Tryz.underlying46 hv
  obtain ⟨fuel, hf⟩ := h
  obtain ⟨c, hc, m, z, hz⟩ := trod_call hf
  obtain ⟨A, l, cc, h1, h2, h3, h4, _⟩ := arr_open Tryz.underlying44 (k := 5) (by kernel_rfl) (by omega) Call0.enc_len (fun _ => True) (fun n cs y hy => by
    obtain ⟨a, ha, _⟩ := trod_call hy
    exact ⟨a, ha, trivial⟩) hz
  injection h1 with e1 e2 e3
  refine ⟨c, l, ?_, ⟨e1 ▸ h2, e2, e3 ▸ h3, e3 ▸ h4⟩⟩
  have : cs = c.enc.toArray := by
    apply Array.toList_inj.1
    simpa [Value.cells] using hc
  rw [this]
  rfl
theorem trod_pair {n : Nat} {cs : List Value} {y : DataW H × List MemPlace} (h : DataW.trod en Tryz.prog w 0 sp held n 54 cs = some y) : ∃ a : Pair, cs = a.enc ∧ True := by
  obtain ⟨xs, m, _, rfl, hl, hlen, hf⟩ := DataW.trod_struct Tryz.underlying54 h
  obtain ⟨c0, c1, rfl⟩ := list2 (hl.trans (by kernel_rfl))
  obtain ⟨y0, y1, rfl⟩ := list2 hlen
  have k9 : Tryz.prog.cellsOf 9 = 1 := by kernel_rfl
  have f0 : DataW.trod en Tryz.prog w 0 sp held m 9 [c0] = some y0 := by simpa [k9] using hf 0 _ rfl
  have f1 : DataW.trod en Tryz.prog w 0 sp held m 9 [c1] = some y1 := by simpa [k9] using hf 1 _ rfl
  obtain ⟨s0, e0, _, _⟩ := DataW.trod_string Tryz.underlying9 f0
  obtain ⟨s1, e1, _, _⟩ := DataW.trod_string Tryz.underlying9 f1
  cases e0; cases e1
  exact ⟨⟨s0, s1⟩, rfl, trivial⟩
theorem trod_txt {n : Nat} {cs : List Value} {y : DataW H × List MemPlace} (h : DataW.trod en Tryz.prog w 0 sp held n 9 cs = some y) : ∃ a : ByteArray, cs = txt a ∧ True := by
  obtain ⟨s0, e0, _, _⟩ := DataW.trod_string Tryz.underlying9 h
  exact ⟨s0, e0, trivial⟩
set_option maxRecDepth 100000 in
theorem open_shelf {r : Reach} {b0 : Nat} {v : Value} {d : DataW H} {p : List MemPlace} (hv : Value.okWide Tryz.prog w r b0 25 v) (h : DataW.Trod en Tryz.prog w 0 sp held 25 v d p) :
    ∃ (s : Shelf) (PA : Option Addr) (pc : Nat) (QA : Option Addr) (qc : Nat), v = .agg #[.slice PA s.pairs.length pc, .slice QA s.queue.length qc] ∧ ShIn w w.heap.size PA pc QA qc s := by
  obtain ⟨cs, rfl, hsz⟩ := okWide_struct Tryz.underlying25 hv
  obtain ⟨fuel, hf⟩ := h
  obtain ⟨xs, m, _, _, hl, hlen, hf⟩ := DataW.trod_struct Tryz.underlying25 hf
  obtain ⟨c0, c1, hcs⟩ := list2 (hl.trans (by kernel_rfl))
  obtain ⟨y0, y1, rfl⟩ := list2 hlen
  have e : cs = #[c0, c1] := by
    apply Array.toList_inj.1
    simpa [Value.cells] using hcs
  subst e
  have k38 : Tryz.prog.cellsOf 22 = 1 := by kernel_rfl
  have k39 : Tryz.prog.cellsOf 23 = 1 := by kernel_rfl
  have f0 : DataW.trod en Tryz.prog w 0 sp held m 22 [c0] = some y0 := by simpa [k38, Value.cells] using hf 0 _ rfl
  have f1 : DataW.trod en Tryz.prog w 0 sp held m 23 [c1] = some y1 := by simpa [k39, Value.cells] using hf 1 _ rfl
  obtain ⟨A, l, c, rfl, h2, h3, h4, _⟩ := arr_open Tryz.underlying22 (k := 2) (by kernel_rfl) (by omega) Pair.enc_len (fun _ => True) (fun n cs y hy => trod_pair hy) f0
  obtain ⟨A', l', c', rfl, h2', h3', h4', _⟩ := arr_open Tryz.underlying23 (k := 1) (by kernel_rfl) (by omega) txt_len (fun _ => True) (fun n cs y hy => trod_txt hy) f1
  exact ⟨⟨l, l'⟩, A, c, A', c', rfl, ⟨h2, h3, h4, h2', h3', h4'⟩⟩
end
end Go.Proofs.YtamcehfcjcmpmaaGreatDoor
/- A list of calls in memory, each with its own group. No program is named. -/
namespace Go.Proofs.YtamcehfcjcmpmaaGreatDoor
open Go.RowKit

/-- a list of calls in memory, each with its own group, as far as it is gone through -/
structure CallsIn (w : World) (B : Nat) (A : Option Addr) (c : Nat) (l : List Call0) (gs : List (List Call0)) : Prop where
  arr : Arr Call0.enc 5 w B A l
  cap : l.length ≤ c
  max : c ≤ 9223372036854775807
  len : gs.length = l.length
  each : ∀ i (h : i < l.length) (h' : i < gs.length), CallIn w B l[i] gs[i]
theorem CallsIn.below {w w' : World} {B : Nat} {A : Option Addr} {c : Nat} {l : List Call0} {gs : List (List Call0)} (h : CallsIn w B A c l gs) (hb : Below B w w') : CallsIn w' B A c l gs :=
  ⟨h.arr.below hb, h.cap, h.max, h.len, fun i hi hi' => (h.each i hi hi').below hb⟩
end Go.Proofs.YtamcehfcjcmpmaaGreatDoor
namespace Go.Proofs.YtamcehfcjcmpmaaGreatDoor
open Go.RowKit Go.Deep Go.ChangeShapes Go.WideShapes

section
variable {H : Type} {en : TypeId × Value → H} {w : World} {sp : Nat → Bool} {held : Bool}
set_option maxRecDepth 100000 in
theorem trod_call_in {n : Nat} {cs : List Value} {y : DataW H × List MemPlace} (h : DataW.trod en Tryz.prog w 0 sp held n 46 cs = some y) :
    ∃ c : Call0, cs = c.enc ∧ ∃ g, CallIn w w.heap.size c g := by
  obtain ⟨c, hc, m, z, hz⟩ := trod_call h
  obtain ⟨A, l, cc, h1, h2, h3, h4, _⟩ := arr_open Tryz.underlying44 (k := 5) (by kernel_rfl) (by omega) Call0.enc_len (fun _ => True) (fun n cs y hy => by
    obtain ⟨a, ha, _⟩ := trod_call hy
    exact ⟨a, ha, trivial⟩) hz
  injection h1 with e1 e2 e3
  exact ⟨c, hc, l, ⟨e1 ▸ h2, e2, e3 ▸ h3, e3 ▸ h4⟩⟩
theorem choose_groups : ∀ (l : List Call0), (∀ c ∈ l, ∃ g, CallIn w w.heap.size c g) → ∃ gs : List (List Call0), gs.length = l.length ∧ ∀ i (h : i < l.length) (h' : i < gs.length), CallIn w w.heap.size l[i] gs[i]
  | [], _ => ⟨[], rfl, fun i h => absurd h (by simp)⟩
  | c :: l, hc => by
    obtain ⟨g, hg⟩ := hc c (by simp)
    obtain ⟨gs, h1, h2⟩ := choose_groups l fun x hx => hc x (by simp [hx])
    refine ⟨g :: gs, by simp [h1], fun i h h' => ?_⟩
    match i with
    | 0 => exact hg
    | i + 1 => exact h2 i (by simpa using h) (by simpa using h')
set_option maxRecDepth 100000 in
theorem open_calls {r : Reach} {b0 : Nat} {v : Value} {d : DataW H} {p : List MemPlace} (hv : Value.okWide Tryz.prog w r b0 44 v) (h : DataW.Trod en Tryz.prog w 0 sp held 44 v d p) :
    ∃ (l : List Call0) (gs : List (List Call0)) (A : Option Addr) (c : Nat), v = .slice A l.length c ∧ CallsIn w w.heap.size A c l gs := by
  obtain ⟨a, len, cap, rfl⟩ := okWide_slice Tryz.underlying44 hv
  obtain ⟨fuel, hf⟩ := h
  have hf' : DataW.trod en Tryz.prog w 0 sp held fuel 44 [.slice a len cap] = some (d, p) := by simpa [Value.cells] using hf
  obtain ⟨A, l, c, h1, h2, h3, h4, h5⟩ := arr_open Tryz.underlying44 (k := 5) (by kernel_rfl) (by omega) Call0.enc_len (fun c => ∃ g, CallIn w w.heap.size c g) (fun n cs y hy => trod_call_in hy) hf'
  obtain ⟨gs, g1, g2⟩ := choose_groups l h5
  exact ⟨l, gs, A, c, h1, ⟨h2, h3, h4, g1, g2⟩⟩
set_option maxRecDepth 100000 in
theorem open_call_deep {r : Reach} {b0 : Nat} {v : Value} {d : DataW H} {p : List MemPlace} (hv : Value.okWide Tryz.prog w r b0 46 v) (h : DataW.Trod en Tryz.prog w 0 sp held 46 v d p) :
    ∃ (c : Call0) (g : List Call0), v = .agg #[.int .i64 c.kind, .string c.key, .string c.val, .string c.to, .slice c.gA c.gn c.gc] ∧ CallIn w w.heap.size c g ∧ ∀ x ∈ g, ∃ g', CallIn w w.heap.size x g' := by
  obtain ⟨cs, rfl, hsz⟩ := okWide_struct Tryz.underlying46 hv
  obtain ⟨fuel, hf⟩ := h
  obtain ⟨c, hc, m, z, hz⟩ := trod_call hf
  obtain ⟨A, l, cc, h1, h2, h3, h4, h5⟩ := arr_open Tryz.underlying44 (k := 5) (by kernel_rfl) (by omega) Call0.enc_len (fun c => ∃ g, CallIn w w.heap.size c g) (fun n cs y hy => trod_call_in hy) hz
  injection h1 with e1 e2 e3
  refine ⟨c, l, ?_, ⟨e1 ▸ h2, e2, e3 ▸ h3, e3 ▸ h4⟩, h5⟩
  have : cs = c.enc.toArray := by
    apply Array.toList_inj.1
    simpa [Value.cells] using hc
  rw [this]
  rfl
end
end Go.Proofs.YtamcehfcjcmpmaaGreatDoor
