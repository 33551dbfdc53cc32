/- A map keyed by a struct of two numbers, that counts: looked up, an entry asked for and stored to, gone over. -/
import Derived.Test.YtamcehfcjcmpmaaAudP
import Derived.Test.YtamcehfcjcmpmaaMem
import Derived.DeepKeys5
import Derived.Maps.Range
import Derived.OwnWalk
namespace Go.Proofs.Ytamcehfcjcmpmaa
open Go.RowKit Go.MapKept
open Go.ChangeMaps (setBlock)
open Go.WideMaps (KeyLaw)

def keyV (x : Taken) : Value := .agg #[.int .i64 x.line, .int .i64 x.cls]
theorem keyV_inj {x y : Taken} (h : keyV x = keyV y) : x = y := by
  unfold keyV at h
  simp at h
  cases x; cases y; simp_all
/-- a block that may be a key: its numbers are numbers of the machine -/
def InR (x : Taken) : Prop := ∃ l, keyOf Try.prog 29 (keyV x) = some l
set_option maxRecDepth 100000 in
theorem key_law : KeyLaw Try.prog 29 := deep_law_gate (by kernel_rfl) (by decide +kernel) (by decide +kernel) (by kernel_rfl) (by kernel_rfl)

theorem key_ok (x : Taken) (h1 : (Lit.int .i64 x.line).wf = true) (h2 : (Lit.int .i64 x.cls).wf = true) : InR x := by
  have hk : Try.prog.keyType 29 = true := by kernel_rfl
  have hc : Try.prog.cellsOf 29 = 2 := by kernel_rfl
  have hi : Try.prog.cellsOf 3 = 1 := by kernel_rfl
  have hf : (keyV x).formed Try.prog 29 = true := by simp [keyV, Value.formed, Try.underlying29, hc]
  obtain ⟨m, hm⟩ : ∃ m, Try.prog.types.size = m + 1 := ⟨_, rfl⟩
  have hl : ∃ ls, Try.prog.keyLits (Try.prog.types.size + 1) 29 (keyV x).cells.toList = some ls := by
    rw [hm]
    simp [Program.keyLits, Try.underlying29, Try.underlying3, keyV, Value.cells, hc, hi, h1, h2]
  obtain ⟨ls, hl⟩ := hl
  refine ⟨.string (keyBytes ls), ?_⟩
  unfold keyOf
  rw [Try.underlying29]
  simp only [hk, hf, Bool.and_self, if_true, hl, Option.map_some]

/-- the entries hold what f says of each key; of what is not there f says nought -/
structure CM (es : Array MapEntry) (clock : Nat) (f : Taken → Int) : Prop where
  st : Stamped es clock
  val : ∀ e ∈ es.toList, ∃ x, InR x ∧ e.key = keyV x ∧ e.val = .int .i64 (f x)
  miss : ∀ x, (∀ e ∈ es.toList, e.key ≠ keyV x) → f x = 0
theorem CM.keys {es : Array MapEntry} {clock : Nat} {f : Taken → Int} (h : CM es clock f) : ∀ e ∈ es.toList, ∃ l, keyOf Try.prog 29 e.key = some l := fun e he => by
  obtain ⟨x, ⟨l, hl⟩, hk, _⟩ := h.val e he
  exact ⟨l, by rw [hk]; exact hl⟩
theorem CM.nil : CM #[] 0 fun _ => 0 := ⟨stamped_empty 0, by simp, fun _ _ => rfl⟩
def upF (f : Taken → Int) (x : Taken) (n : Int) : Taken → Int := fun y => if y = x then n else f y
theorem zero_i64 (w : World) : (zeroValue 3).run Try.prog w = .ok (.int .i64 0) w := by kernel_rfl
theorem born_find {l : List MapEntry} (hn : (l.map (·.born)).Nodup) {j : Nat} {e0 : MapEntry} (h : l[j]? = some e0) : l.findIdx? (fun e => ((e.born : Nat) : Int) == ((e0.born : Nat) : Int)) = some j := by
  rw [List.findIdx?_eq_some_iff_getElem]
  obtain ⟨hj, rfl⟩ := List.getElem?_eq_some_iff.1 h
  refine ⟨hj, by simp, fun i hi => ?_⟩
  have := List.pairwise_iff_getElem.1 hn i j (by simp; omega) (by simpa using hj) hi
  simp at this ⊢
  omega
section
variable {es : Array MapEntry} {clock r : Nat} {f : Taken → Int} {w : World} {x : Taken}
theorem look_run (h : CM es clock f) (hb : w.heap[r]? = some (.map es clock)) (hx : InR x) : (Instr.lookup 36 (.map (some r)) (keyV x) false).run Try.prog w = .ok (.int .i64 (f x)) w := by
  obtain ⟨l, hl⟩ := hx
  have ht : Try.prog.underlying 36 = some (.map 29 3) := Try.underlying36
  rcases key_law.find w hl es.toList h.keys with ⟨h1, h2⟩ | ⟨j, e0, h1, h2, h3⟩
  · rw [h.miss x h2]
    simp [Instr.lookup, run_underlying ht, MapKept.run_getObj_map hb, (fun em => key_law.check w em hl), h1, Result.andThen]
  · obtain ⟨y, _, hk, hv⟩ := h.val e0 (List.mem_of_getElem? h2)
    obtain rfl := keyV_inj (hk.symm.trans h3)
    simp [Instr.lookup, run_underlying ht, MapKept.run_getObj_map hb, (fun em => key_law.check w em hl), h1, hv, Result.andThen]
theorem modify_same {l : List MapEntry} {j : Nat} {e0 : MapEntry} (h : l[j]? = some e0) (g : MapEntry → MapEntry) (hg : g e0 = e0) : l.modify j g = l := by
  apply List.ext_getElem?
  intro i
  rw [List.getElem?_modify]
  by_cases hij : j = i
  · subst hij
    rw [h]
    simp [hg]
  · simp [hij]
theorem entry_run (h : CM es clock f) (hb : w.heap[r]? = some (.map es clock)) (hx : InR x) : ∃ (st : Nat) (es1 : Array MapEntry) (clock1 : Nat), (Instr.mapEntry 36 (.map (some r)) (keyV x)).run Try.prog w = .ok (.tuple #[.int .i64 (f x), goInt st]) (setBlock w r (.map es1 clock1)) ∧
    CM es1 clock1 f ∧ ∃ e ∈ es1.toList, e.born = st ∧ e.key = keyV x := by
  obtain ⟨l, hl⟩ := hx
  have ht : Try.prog.underlying 36 = some (.map 29 3) := Try.underlying36
  rcases key_law.find w hl es.toList h.keys with ⟨h1, h2⟩ | ⟨j, e0, h1, h2, h3⟩
  · have h0 := h.miss x h2
    refine ⟨clock, es.push ⟨keyV x, .int .i64 0, clock⟩, clock + 1, ?_, ⟨?_, ?_, ?_⟩, ⟨keyV x, .int .i64 0, clock⟩, by simp, rfl, rfl⟩
    · rw [h0]
      simp [Instr.mapEntry, run_underlying ht, MapKept.run_getObj_map hb, (fun em => key_law.check w em hl), h1, MapKept.run_setObj_map _ hb, Result.andThen, setBlock]
    · obtain ⟨s1, s2, s3⟩ := h.st
      refine ⟨fun e he => ?_, ?_, ?_⟩
      · rw [Array.toList_push, List.mem_append] at he
        rcases he with he | he
        · have := s1 e he; omega
        · simp at he; subst he; simp
      · rw [Array.toList_push, List.map_append]
        refine List.nodup_append.2 ⟨s2, by simp, fun a ha c hc e1 => ?_⟩
        simp at hc
        obtain ⟨y, hy, rfl⟩ := List.mem_map.1 ha
        have := s1 y hy
        omega
      · rw [Array.toList_push, List.map_append]
        refine List.nodup_append.2 ⟨s3, by simp, fun a ha c hc e1 => ?_⟩
        simp at hc
        obtain ⟨y, hy, rfl⟩ := List.mem_map.1 ha
        exact h2 y hy (e1.trans hc)
    · intro e he
      rw [Array.toList_push, List.mem_append] at he
      rcases he with he | he
      · exact h.val e he
      · simp at he
        subst he
        exact ⟨x, ⟨l, hl⟩, rfl, by rw [h0]⟩
    · intro y hy
      exact h.miss y fun e he => hy e (by simp; exact .inl (by simpa using he))
  · obtain ⟨y, _, hk, hv⟩ := h.val e0 (List.mem_of_getElem? h2)
    obtain rfl := keyV_inj (hk.symm.trans h3)
    have hj : es[j]? = some e0 := by simpa using h2
    have hsame : es.modify j (fun e => { e with key := keyV y }) = es := by
      apply Array.ext'
      rw [Array.toList_modify]
      exact modify_same h2 _ (by rw [← h3])
    refine ⟨e0.born, es, clock, ?_, h, e0, List.mem_of_getElem? h2, rfl, h3⟩
    simp [Instr.mapEntry, run_underlying ht, MapKept.run_getObj_map hb, (fun em => key_law.check w em hl), h1, hj, h3, hv, key_law.stays w hl, hsame, MapKept.run_setObj_map _ hb, Result.andThen, setBlock]
theorem store_run (h : CM es clock f) (hb : w.heap[r]? = some (.map es clock)) (hx : InR x) {st : Nat} (hst : ∃ e ∈ es.toList, e.born = st ∧ e.key = keyV x) (n : Int) :
    ∃ es', (Instr.entryStore 36 (.map (some r)) (goInt st) (.int .i64 n)).run Try.prog w = .ok () (setBlock w r (.map es' clock)) ∧ CM es' clock (upF f x n) := by
  obtain ⟨e0, he0, rfl, hk0⟩ := hst
  obtain ⟨j, hj, hje⟩ := List.getElem_of_mem he0
  have h2 : es.toList[j]? = some e0 := by rw [List.getElem?_eq_getElem hj, hje]
  obtain ⟨s1, s2, s3⟩ := h.st
  have hidx : es.findIdx? (fun e => ((e.born : Nat) : Int) == ((e0.born : Nat) : Int)) = some j := by
    have harr : ∀ (xs : Array MapEntry) (p : MapEntry → Bool), xs.findIdx? p = xs.toList.findIdx? p := fun xs p => by cases xs; simp
    rw [harr]
    exact born_find s2 h2
  have hmap : ∀ i, (es.toList.modify j (fun e => { e with val := .int .i64 n }))[i]? = if j = i then some { e0 with val := .int .i64 n } else es.toList[i]? := by
    intro i
    rw [List.getElem?_modify]
    by_cases hij : j = i
    · subst hij; rw [h2]; simp
    · simp [hij]
  have hkeys : (es.toList.modify j (fun e => { e with val := .int .i64 n })).map (·.key) = es.toList.map (·.key) := by
    apply List.ext_getElem?
    intro i
    rw [List.getElem?_map, List.getElem?_map, hmap]
    by_cases hij : j = i
    · subst hij; rw [h2]; simp
    · simp [hij]
  have hborn : (es.toList.modify j (fun e => { e with val := .int .i64 n })).map (·.born) = es.toList.map (·.born) := by
    apply List.ext_getElem?
    intro i
    rw [List.getElem?_map, List.getElem?_map, hmap]
    by_cases hij : j = i
    · subst hij; rw [h2]; simp
    · simp [hij]
  have hmem : ∀ e ∈ es.toList.modify j (fun e => { e with val := .int .i64 n }), e = { e0 with val := .int .i64 n } ∨ (e ∈ es.toList ∧ e.key ≠ keyV x) := by
    intro e he
    obtain ⟨i, hi, rfl⟩ := List.getElem_of_mem he
    have h3 := hmap i
    rw [List.getElem?_eq_getElem hi] at h3
    by_cases hij : j = i
    · rw [if_pos hij] at h3
      exact .inl (Option.some.inj h3)
    · rw [if_neg hij] at h3
      have hil : i < es.toList.length := by simpa using hi
      rw [List.getElem?_eq_getElem hil] at h3
      have h4 := Option.some.inj h3
      refine .inr ⟨by rw [h4]; exact List.getElem_mem hil, fun hc => ?_⟩
      rw [h4] at hc
      have hp := List.pairwise_iff_getElem.1 s3
      have e1 : (es.toList.map (·.key))[i]'(by simpa using hil) = (es.toList.map (·.key))[j]'(by simpa using hj) := by
        simp only [List.getElem_map]
        rw [hc, hje, hk0]
      rcases (by omega : i < j ∨ j < i) with hlt | hlt
      · exact hp i j (by simpa using hil) (by simpa using hj) hlt e1
      · exact hp j i (by simpa using hj) (by simpa using hil) hlt e1.symm
  refine ⟨es.modify j (fun e => { e with val := .int .i64 n }), ?_, ⟨⟨?_, ?_, ?_⟩, ?_, ?_⟩⟩
  · simp [Instr.entryStore, MapKept.run_getObj_map hb, asInt, asIntOf, goInt, hidx, MapKept.run_setObj_map _ hb, Result.andThen, setBlock]
  · intro e he
    rw [Array.toList_modify] at he
    rcases hmem e he with rfl | ⟨h3, _⟩
    · exact s1 e0 he0
    · exact s1 e h3
  · rw [Array.toList_modify, hborn]; exact s2
  · rw [Array.toList_modify, hkeys]; exact s3
  · intro e he
    rw [Array.toList_modify] at he
    rcases hmem e he with rfl | ⟨h3, h4⟩
    · exact ⟨x, hx, hk0, by simp [upF]⟩
    · obtain ⟨y, hy1, hy2, hy3⟩ := h.val e h3
      refine ⟨y, hy1, hy2, ?_⟩
      rw [hy3, upF, if_neg (fun e1 => h4 (by rw [hy2, e1]))]
  · intro y hy
    rw [Array.toList_modify] at hy
    have hne : y ≠ x := fun e1 => by
      subst e1
      exact hy { e0 with val := .int .i64 n } (List.mem_of_getElem? (i := j) (by rw [hmap, if_pos rfl])) hk0
    rw [upF, if_neg hne]
    refine h.miss y fun e he => ?_
    by_cases hee : e.key = keyV x
    · rw [hee]; exact fun h5 => hne (keyV_inj h5).symm
    · obtain ⟨i, hi, rfl⟩ := List.getElem_of_mem he
      refine hy _ (List.mem_of_getElem? (i := i) ?_)
      rw [hmap, if_neg ?_, List.getElem?_eq_getElem hi]
      rintro rfl
      exact hee (by rw [hje]; exact hk0)
end
/-- block r is a map that counts f -/
def MapC (w : World) (r : Nat) (f : Taken → Int) : Prop := ∃ es clock, w.heap[r]? = some (.map es clock) ∧ CM es clock f
/-- the same, and the entry of x has been asked for -/
def MapE (w : World) (r : Nat) (f : Taken → Int) (st : Nat) (x : Taken) : Prop := ∃ es clock, w.heap[r]? = some (.map es clock) ∧ CM es clock f ∧ ∃ e ∈ es.toList, e.born = st ∧ e.key = keyV x
theorem MapE.toC {w : World} {r : Nat} {f : Taken → Int} {st : Nat} {x : Taken} (h : MapE w r f st x) : MapC w r f := by
  obtain ⟨es, clock, h1, h2, _⟩ := h
  exact ⟨es, clock, h1, h2⟩
theorem MapC.same {w w' : World} {r : Nat} {f : Taken → Int} (h : MapC w r f) (hb : w'.heap[r]? = w.heap[r]?) : MapC w' r f := by
  obtain ⟨es, clock, h1, h2⟩ := h
  exact ⟨es, clock, hb.trans h1, h2⟩
theorem MapE.same {w w' : World} {r : Nat} {f : Taken → Int} {st : Nat} {x : Taken} (h : MapE w r f st x) (hb : w'.heap[r]? = w.heap[r]?) : MapE w' r f st x := by
  obtain ⟨es, clock, h1, h2⟩ := h
  exact ⟨es, clock, hb.trans h1, h2⟩
theorem MapC.lt {w : World} {r : Nat} {f : Taken → Int} (h : MapC w r f) : r < w.heap.size := by
  obtain ⟨es, clock, h1, _⟩ := h
  exact (Array.getElem?_eq_some_iff.1 h1).1
theorem MapE.lt {w : World} {r : Nat} {f : Taken → Int} {st : Nat} {x : Taken} (h : MapE w r f st x) : r < w.heap.size := h.toC.lt
theorem grown_block {w : World} {r : Nat} {o o' : Obj} (hb : w.heap[r]? = some o) : w.grownBy (setBlock w r o') (some r) :=
  ⟨rfl, rfl, rfl, by simp [setBlock], fun i _ hne => (MapKept.heap_set hb).2 i fun h => hne (by rw [h])⟩
theorem look_ex {w : World} {r : Nat} {f : Taken → Int} {x : Taken} (h : MapC w r f) (hx : InR x) : (Instr.lookup 36 (.map (some r)) (.agg #[.int .i64 x.line, .int .i64 x.cls]) false).run Try.prog w = .ok (.int .i64 (f x)) w := by
  obtain ⟨es, clock, hb, hc⟩ := h
  exact look_run hc hb hx
theorem entry_ex {w : World} {r : Nat} {f : Taken → Int} {x : Taken} (h : MapC w r f) (hx : InR x) : ∃ (st : Nat) (w' : World), (Instr.mapEntry 36 (.map (some r)) (.agg #[.int .i64 x.line, .int .i64 x.cls])).run Try.prog w = .ok (.tuple #[.int .i64 (f x), .int .i64 (st : Int)]) w' ∧ MapE w' r f st x ∧ w.grownBy w' (some r) := by
  obtain ⟨es, clock, hb, hc⟩ := h
  obtain ⟨st, es1, clock1, hrun, h1, h2⟩ := entry_run hc hb hx
  exact ⟨st, _, hrun, ⟨es1, clock1, (MapKept.heap_set hb).1, h1, h2⟩, grown_block hb⟩
theorem store_ex {w : World} {r : Nat} {f : Taken → Int} {x : Taken} {st : Nat} (h : MapE w r f st x) (hx : InR x) (n : Int) : ∃ w' : World, (Instr.entryStore 36 (.map (some r)) (.int .i64 (st : Int)) (.int .i64 n)).run Try.prog w = .ok () w' ∧ MapC w' r (upF f x n) ∧ w.grownBy w' (some r) := by
  obtain ⟨es, clock, hb, hc, he⟩ := h
  obtain ⟨es1, hrun, h1⟩ := store_run hc hb hx he n
  exact ⟨_, hrun, ⟨es1, clock, (MapKept.heap_set hb).1, h1⟩, grown_block hb⟩
/-- the map is gone over: what has come was nought -/
def IterC (w : World) (r it : Nat) (f : Taken → Int) : Prop := ∃ es clock since seen c0, w.heap[r]? = some (.map es clock) ∧ CM es clock f ∧ w.heap[it]? = some (.mapIter (some r) since seen c0) ∧ (∀ x ∈ es.toList, x.born < since) ∧ since ≤ c0 ∧ since ≤ clock ∧
  ∀ x ∈ es.toList, seen.contains x.born = true → x.val = .int .i64 0
section
variable {ops : Array Oper} {rest : List Oper} {o : Oper} {a : Act} {w : World} {Q : Exit → Act → World → Prop} {r it : Nat} {f : Taken → Int}
theorem wpList_range_c (hg : o.guard = none) (m : Operand) (hop : o.op = Op.range 36 m) (hm : a.eval m = .map (some r)) (h : MapC w r f)
    (hK : ∀ w', IterC w' r w.heap.size f → w.grownBy w' none → w'.heap.size = w.heap.size + 1 → wpList Try.prog ops Q rest (a.put o.dst (.pointer (some ⟨w.heap.size, 0, none⟩))) w') : wpList Try.prog ops Q (o :: rest) a w := by
  refine wpList_plain hg fun K' hK' => ?_
  have hlt := h.lt
  obtain ⟨es, clock, hb, hc⟩ := h
  have ht : Try.prog.underlying 36 = some (.map 29 3) := Try.underlying36
  unfold Oper.wp
  simp [execOp, hop, hm, run_range_map w 36 29 3 r es clock ht hb, Result.andThen]
  refine hK' _ _ (hK _ ⟨es, clock, clock, #[], clock, ((MapKept.heap_alloc w _).2 r hlt).trans hb, hc, (MapKept.heap_alloc w _).1, hc.st.1, Nat.le_refl _, Nat.le_refl _, fun x _ hs => by simp at hs⟩ (World.grownBy_alloc w _ none) (by simp))
theorem wpList_next_c (hg : o.guard = none) (i : Operand) (hop : o.op = Op.next i false) (hi : a.eval i = .pointer (some ⟨it, 0, none⟩)) (h : IterC w r it f)
    (hDone : (∀ x, f x = 0) → wpList Try.prog ops Q rest (a.put o.dst (.tuple #[.bool false])) w)
    (hMore : ∀ (x : Taken) (w' : World), (f x = 0 → IterC w' r it f) → w'.rangeLeft r it < w.rangeLeft r it → w.grownBy w' (some it) → w'.heap.size = w.heap.size →
      (Instr.entry (.pointer (some ⟨it, 0, none⟩))).run Try.prog w' = .ok (.tuple #[.agg #[.int .i64 x.line, .int .i64 x.cls], .int .i64 (f x)]) w' → wpList Try.prog ops Q rest (a.put o.dst (.tuple #[.bool true, .agg #[.int .i64 x.line, .int .i64 x.cls], .int .i64 (f x)])) w') :
    wpList Try.prog ops Q (o :: rest) a w := by
  refine wpList_plain hg fun K' hK' => ?_
  obtain ⟨es, clock, since, seen, c0, hb, hc, hr, hold, hsc, hsk, hz⟩ := h
  have hne : it ≠ r := fun e => by rw [e, hb] at hr; cases hr
  unfold Oper.wp
  rcases run_next_at (P := Try.prog) w o.type it r since c0 seen es clock hr hb hold hsc with ⟨h0, hrun⟩ | ⟨e, he, w1, hal, hrun⟩
  · simp [execOp, hop, hi, hrun, Result.andThen]
    refine hK' _ _ (hDone fun x => ?_)
    by_cases hx : ∀ e ∈ es.toList, e.key ≠ keyV x
    · exact hc.miss x hx
    · obtain ⟨e, he, hk⟩ : ∃ e ∈ es.toList, e.key = keyV x := Classical.byContradiction fun hn => hx fun e he hk => hn ⟨e, he, hk⟩
      obtain ⟨y, _, hy, hv⟩ := hc.val e he
      obtain rfl := keyV_inj (hy.symm.trans hk)
      have h1 := hz e he (by have := all_seen es seen h0 e he; simpa using this)
      rw [hv] at h1
      injection h1
  · obtain ⟨hem, hes⟩ := mem_left he
    obtain ⟨x, _, hk, hv⟩ := hc.val e hem
    have hr1 : w1.heap[it]? = some (.mapIter (some r) since seen c0) := by rcases hal with rfl | rfl <;> exact hr
    have hb1 : w1.heap[r]? = some (.map es clock) := by rcases hal with rfl | rfl <;> exact hb
    have hset := MapKept.heap_set (o' := .mapIter (some r) since (seen.push e.born) clock) hr1
    have hb' : (setBlock w1 it (.mapIter (some r) since (seen.push e.born) clock)).heap[r]? = some (.map es clock) := (hset.2 r (fun e1 => hne e1.symm)).trans hb1
    have hsh := left_shrinks es seen e he
    have hs1 : (setBlock w1 it (.mapIter (some r) since (seen.push e.born) clock)).heap[it]? = some (.mapIter (some r) since (seen.push e.born) clock) := hset.1
    rw [hk, hv] at hrun
    simp [execOp, hop, hi, hrun, Result.andThen]
    refine hK' _ _ (hMore x _ (fun hfx => ⟨es, clock, since, seen.push e.born, clock, hb', hc, hset.1, hold, hsk, hsk, fun y hy hs => ?_⟩) ?_ ?_ ?_ ?_)
    · rw [contains_push] at hs
      cases h1 : seen.contains y.born with
      | true => exact hz y hy h1
      | false =>
        rw [h1] at hs
        have hbe : y.born = e.born := by simpa using hs
        obtain rfl := born_inj hc.st.2.1 hy hem hbe
        rw [hv, hfx]
    · simp only [World.rangeLeft, hb, hr, hb', hs1]
      exact hsh
    · rcases hal with rfl | rfl <;> exact ⟨rfl, rfl, rfl, by simp [setBlock], fun i _ hi => hset.2 i (fun e1 => hi (by rw [e1]))⟩
    · rcases hal with rfl | rfl <;> simp [setBlock]
    · have := run_entry_at (P := Try.prog) _ it r since seen es clock e hset.1 hb' hem hc.st.2.1
      rw [hk, hv] at this
      exact this
end
end Go.Proofs.Ytamcehfcjcmpmaa
