/- What was tried: a map keyed by a struct of a number and a text. -/
import Derived.Test.YtamcehfcjcmpmaaDoorSrch
import Derived.DeepKeys5
import Derived.WideKeyElems3
namespace Go.Proofs.YtamcehfcjcmpmaaDoor
open Go.RowKit Go.MapKept
open Go.ChangeMaps (setBlock)
open Go.WideMaps (KeyLaw)

def stKey (d : Nat) (t : ByteArray) : Value := .agg #[.int .u64 (d : Int), .string t]
theorem stKey_inj {d d' : Nat} {t t' : ByteArray} (h : stKey d t = stKey d' t') : d = d' ∧ t = t' := by
  unfold stKey at h
  simp at h
  exact ⟨by omega, h.2⟩
def InS (d : Nat) (t : ByteArray) : Prop := ∃ l, keyOf Tryd.prog 94 (stKey d t) = some l
set_option maxRecDepth 100000 in
theorem stKey_law : KeyLaw Tryd.prog 94 := deep_law_gate (by kernel_rfl) (by decide +kernel) (by decide +kernel) (by kernel_rfl) (by kernel_rfl)
theorem inS (d : Nat) (t : ByteArray) (h : d < 18446744073709551616) (hts : t.size ≤ 1000000000) : InS d t := by
  have hk : Tryd.prog.keyType 94 = true := by kernel_rfl
  have hc : Tryd.prog.cellsOf 94 = 2 := by kernel_rfl
  have hi : Tryd.prog.cellsOf 72 = 1 := by kernel_rfl
  have hs : Tryd.prog.cellsOf 9 = 1 := by kernel_rfl
  have h1 : (Lit.int .u64 (d : Int)).wf = true := by
    have e1 : IntKind.u64.min = 0 := by rfl
    have e2 : IntKind.u64.max = 18446744073709551615 := by rfl
    simp [Lit.wf, e1, e2]
    omega
  have hf : (stKey d t).formed Tryd.prog 94 = true := by simp [stKey, Value.formed, Tryd.underlying94, hc]
  obtain ⟨m, hm⟩ : ∃ m, Tryd.prog.types.size = m + 1 := ⟨_, rfl⟩
  have hl : ∃ ls, Tryd.prog.keyLits (Tryd.prog.types.size + 1) 94 (stKey d t).cells.toList = some ls := by
    rw [hm]
    simp [Program.keyLits, Tryd.underlying94, Tryd.underlying72, Tryd.underlying9, stKey, Value.cells, hc, hi, hs, h1, show t.size ≤ maxLen by unfold maxLen; omega]
  obtain ⟨ls, hl⟩ := hl
  refine ⟨.string (keyBytes ls), ?_⟩
  unfold keyOf
  rw [Tryd.underlying94]
  simp only [hk, hf, Bool.and_self, if_true, hl, Option.map_some]
/-- the entries are those that were tried -/
structure CMS (es : Array MapEntry) (clock : Nat) (T : Nat → List UInt8 → Prop) : Prop where
  st : Stamped es clock
  val : ∀ e ∈ es.toList, ∃ d t, InS d t ∧ e.key = stKey d t ∧ e.val = .int .i64 1 ∧ T d (bytesOf t)
  has : ∀ d t, T d (bytesOf t) → ∃ e ∈ es.toList, e.key = stKey d t
theorem CMS.keys {es : Array MapEntry} {clock : Nat} {T : Nat → List UInt8 → Prop} (h : CMS es clock T) : ∀ e ∈ es.toList, ∃ l, keyOf Tryd.prog 94 e.key = some l := fun e he => by
  obtain ⟨d, t, ⟨l, hl⟩, hk, _⟩ := h.val e he
  exact ⟨l, by rw [hk]; exact hl⟩
theorem CMS.nil : CMS #[] 0 fun _ _ => False := ⟨stamped_empty 0, by simp, fun _ _ h => h.elim⟩
section
variable {es : Array MapEntry} {clock r : Nat} {T : Nat → List UInt8 → Prop} {w : World} {d : Nat} {t : ByteArray}
theorem CMS.look_yes (h : CMS es clock T) (hb : w.heap[r]? = some (.map es clock)) (hx : InS d t) (ht0 : T d (bytesOf t)) : (Instr.lookup 77 (.map (some r)) (stKey d t) false).run Tryd.prog w = .ok (.int .i64 1) w := by
  obtain ⟨l, hl⟩ := hx
  have ht : Tryd.prog.underlying 77 = some (.map 94 3) := Tryd.underlying77
  rcases stKey_law.find w hl es.toList h.keys with ⟨h1, h2⟩ | ⟨j, e0, h1, h2, h3⟩
  · obtain ⟨e, he, hk⟩ := h.has d t ht0
    exact absurd hk (h2 e he)
  · obtain ⟨_, _, _, _, hv, _⟩ := h.val e0 (List.mem_of_getElem? h2)
    simp [Instr.lookup, run_underlying ht, MapKept.run_getObj_map hb, (fun em => stKey_law.check w em hl), h1, hv, Result.andThen]
theorem CMS.look_no (h : CMS es clock T) (hb : w.heap[r]? = some (.map es clock)) (hx : InS d t) (ht0 : ¬ T d (bytesOf t)) : (Instr.lookup 77 (.map (some r)) (stKey d t) false).run Tryd.prog w = .ok (.int .i64 0) w := by
  obtain ⟨l, hl⟩ := hx
  have ht : Tryd.prog.underlying 77 = some (.map 94 3) := Tryd.underlying77
  have hz : (zeroValue 3).run Tryd.prog w = .ok (.int .i64 0) w := by kernel_rfl
  rcases stKey_law.find w hl es.toList h.keys with ⟨h1, h2⟩ | ⟨j, e0, h1, h2, h3⟩
  · simp [Instr.lookup, run_underlying ht, MapKept.run_getObj_map hb, (fun em => stKey_law.check w em hl), h1, hz, Result.andThen]
  · obtain ⟨d', t', _, hk, _, hT⟩ := h.val e0 (List.mem_of_getElem? h2)
    obtain ⟨rfl, rfl⟩ := stKey_inj (hk.symm.trans h3)
    exact absurd hT ht0
theorem CMS.put_all (h : CMS es clock T) (hx : InS d t) (ht0 : ¬ T d (bytesOf t)) :
    ∃ es' clock', (∀ W : World, W.heap[r]? = some (.map es clock) → (Instr.mapUpdate 77 (.map (some r)) (stKey d t) (.int .i64 1)).run Tryd.prog W = .ok () (setBlock W r (.map es' clock'))) ∧ CMS es' clock' (addT T d (bytesOf t)) := by
  have hx0 := hx
  obtain ⟨l, hl⟩ := hx
  have ht : Tryd.prog.underlying 77 = some (.map 94 3) := Tryd.underlying77
  have hno : ∀ e ∈ es.toList, e.key ≠ stKey d t := fun e he hk => by
    obtain ⟨d', t', _, hk', _, hT⟩ := h.val e he
    obtain ⟨rfl, rfl⟩ := stKey_inj (hk'.symm.trans hk)
    exact ht0 hT
  refine ⟨es.push ⟨stKey d t, .int .i64 1, clock⟩, clock + 1, fun W hb => ?_, stamped_push h.st hno, ?_, ?_⟩
  · rcases stKey_law.find W hl es.toList h.keys with ⟨h1, h2⟩ | ⟨j, e0, h1, h2, h3⟩
    · simp [Instr.mapUpdate, run_underlying ht, MapKept.run_getObj_map hb, stKey_law.check W false hl, h1, MapKept.run_setObj_map _ hb, Result.andThen, setBlock]
    · exact absurd h3 (hno e0 (List.mem_of_getElem? h2))
  · intro e he
    simp only [Array.toList_push, List.mem_append, List.mem_singleton] at he
    rcases he with he | rfl
    · obtain ⟨d', t', a, b, c, e⟩ := h.val e he
      exact ⟨d', t', a, b, c, .inl e⟩
    · exact ⟨d, t, hx0, rfl, rfl, .inr ⟨rfl, rfl⟩⟩
  · rintro d' t' (h4 | ⟨rfl, h5⟩)
    · obtain ⟨e, he, hk⟩ := h.has d' t' h4
      exact ⟨e, by simp only [Array.toList_push, List.mem_append]; exact .inl he, hk⟩
    · rw [bytesOf_inj h5]
      exact ⟨_, by simp only [Array.toList_push, List.mem_append, List.mem_singleton]; exact .inr rfl, rfl⟩
end
end Go.Proofs.YtamcehfcjcmpmaaDoor
