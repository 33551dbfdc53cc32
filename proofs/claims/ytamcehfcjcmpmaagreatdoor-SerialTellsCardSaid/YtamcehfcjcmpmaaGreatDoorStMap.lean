/- What was tried: a map keyed by a struct of a number and a text. -/
import Derived.Test.YtamcehfcjcmpmaaGreatDoorSt8
import Derived.Test.YtamcehfcjcmpmaaGreatDoorApp
import Derived.DeepKeys5
import Derived.WideKeyElems3
/- The text of a shelf tells the shelf. Plain facts; no program is walked. -/
namespace Go.Proofs.YtamcehfcjcmpmaaGreatDoor
open Go.RowKit

def isDig (b : UInt8) : Bool := decide (48 ≤ b.toNat) && decide (b.toNat ≤ 57)
def digVal (l : List UInt8) : Nat := l.foldl (fun a b => a * 10 + (b.toNat - 48)) 0
theorem dig_of (i : Nat) (h : i < 10) : (UInt8.ofNat (48 + i)).toNat = 48 + i := by
  rw [UInt8.toNat_ofNat']
  omega
theorem dec_dig : ∀ (u : Nat), (∀ b ∈ Lib.decDigits u, isDig b = true) ∧ digVal (Lib.decDigits u) = u
  | u => by
    rw [Lib.decDigits]
    split
    · rename_i h
      constructor
      · intro b hb
        rw [List.mem_singleton] at hb
        subst hb
        simp [isDig]
        omega
      · simp [digVal]
        omega
    · rename_i h
      obtain ⟨h1, h2⟩ := dec_dig (u / 10)
      constructor
      · intro b hb
        rw [List.mem_append] at hb
        rcases hb with hb | hb
        · exact h1 b hb
        · rw [List.mem_singleton] at hb
          subst hb
          simp [isDig]
          omega
      · unfold digVal at h2 ⊢
        rw [List.foldl_append, h2]
        simp
        omega
theorem itoa_nat (n : Nat) : Lib.itoa (n : Int) = Lib.decDigits n := Lib.itoa_nonneg n
/-- no digit stands at its head -/
def noDig (l : List UInt8) : Prop := ∀ b r, l = b :: r → isDig b = false
theorem dig_split : ∀ {x y r r' : List UInt8}, (∀ b ∈ x, isDig b = true) → (∀ b ∈ y, isDig b = true) → noDig r → noDig r' → x ++ r = y ++ r' → x = y ∧ r = r'
  | [], [], _, _, _, _, _, _, h => ⟨rfl, h⟩
  | [], b :: y, r, r', _, hy, hr, _, h => by
    have := hr b (y ++ r') h
    rw [hy b (by simp)] at this
    cases this
  | a :: x, [], r, r', hx, _, _, hr', h => by
    have := hr' a (x ++ r) h.symm
    rw [hx a (by simp)] at this
    cases this
  | a :: x, b :: y, r, r', hx, hy, hr, hr', h => by
    simp only [List.cons_append, List.cons.injEq] at h
    obtain ⟨rfl, h⟩ := h
    obtain ⟨rfl, h2⟩ := dig_split (fun b hb => hx b (by simp [hb])) (fun b hb => hy b (by simp [hb])) hr hr' h
    exact ⟨rfl, h2⟩
theorem itoa_split {n m : Nat} {r r' : List UInt8} (hr : noDig r) (hr' : noDig r') (h : Lib.itoa (n : Int) ++ r = Lib.itoa (m : Int) ++ r') : n = m ∧ r = r' := by
  rw [itoa_nat, itoa_nat] at h
  obtain ⟨h1, h2⟩ := dig_split (dec_dig n).1 (dec_dig m).1 hr hr' h
  refine ⟨?_, h2⟩
  rw [← (dec_dig n).2, ← (dec_dig m).2, h1]
theorem noDig_cons {b : UInt8} {r : List UInt8} (h : isDig b = false) : noDig (b :: r) := fun c q e => by
  simp only [List.cons.injEq] at e
  rw [← e.1]; exact h
theorem bytesOf_inj {x y : ByteArray} (h : bytesOf x = bytesOf y) : x = y := by
  unfold bytesOf at h
  exact ByteArray.ext (Array.toList_inj.1 h)
theorem bytesOf_len (x : ByteArray) : (bytesOf x).length = x.size := Array.length_toList
theorem item_split {x y : ByteArray} {r r' : List UInt8} (h : txtItem x ++ r = txtItem y ++ r') : x = y ∧ r = r' := by
  unfold txtItem at h
  simp only [List.cons_append, List.append_assoc, List.cons.injEq, true_and] at h
  obtain ⟨h1, h2⟩ := itoa_split (noDig_cons (by decide)) (noDig_cons (by decide)) h
  simp only [List.cons.injEq, true_and] at h2
  obtain ⟨h3, h4⟩ := List.append_inj h2 (by rw [bytesOf_len, bytesOf_len]; exact h1)
  exact ⟨bytesOf_inj h3, h4⟩
theorem item_ne (x : ByteArray) (r : List UInt8) : txtItem x ++ r ≠ [] := by simp [txtItem]
theorem queue_inj : ∀ {q q' : List ByteArray}, queueL q = queueL q' → q = q'
  | [], [], _ => rfl
  | [], x :: q, h => absurd h.symm (by simp only [queueL, List.flatMap_cons, List.flatMap_nil]; exact item_ne _ _)
  | x :: q, [], h => absurd h (by simp only [queueL, List.flatMap_cons, List.flatMap_nil]; exact item_ne _ _)
  | x :: q, y :: q', h => by
    simp only [queueL, List.flatMap_cons] at h
    obtain ⟨rfl, h2⟩ := item_split h
    rw [queue_inj h2]
theorem pairs_inj : ∀ {l l' : List Pair} {r r' : List UInt8}, l.length = l'.length → pairsL l ++ r = pairsL l' ++ r' → l = l' ∧ r = r'
  | [], [], _, _, _, h => ⟨rfl, h⟩
  | [], _ :: _, _, _, hl, _ => by simp at hl
  | _ :: _, [], _, _, hl, _ => by simp at hl
  | p :: l, p' :: l', r, r', hl, h => by
    simp only [pairsL, List.flatMap_cons, List.append_assoc] at h
    obtain ⟨h1, h⟩ := item_split h
    obtain ⟨h2, h⟩ := item_split h
    obtain ⟨rfl, h3⟩ := pairs_inj (l := l) (l' := l') (by simpa using hl) h
    refine ⟨?_, h3⟩
    cases p; cases p'
    simp only at h1 h2
    rw [h1, h2]
theorem noDig_rest (s : Shelf) : noDig (pairsL s.pairs ++ queueL s.queue) := by
  intro b r h
  cases hp : s.pairs with
  | nil =>
    rw [hp] at h
    cases hq : s.queue with
    | nil => rw [hq] at h; simp [pairsL, queueL] at h
    | cons x q =>
      rw [hq] at h
      simp only [pairsL, queueL, List.flatMap_nil, List.flatMap_cons, List.nil_append, txtItem, List.cons_append, List.cons.injEq] at h
      rw [← h.1]; decide
  | cons p l =>
    rw [hp] at h
    simp only [pairsL, List.flatMap_cons, txtItem, List.cons_append, List.cons.injEq] at h
    rw [← h.1]; decide
theorem text_inj {s t : Shelf} (h : textL s = textL t) : s = t := by
  unfold textL at h
  rw [List.append_assoc, List.append_assoc] at h
  obtain ⟨h1, h2⟩ := itoa_split (noDig_rest s) (noDig_rest t) h
  obtain ⟨h3, h4⟩ := pairs_inj h1 h2
  have h5 := queue_inj h4
  cases s; cases t
  simp only at h3 h5
  rw [h3, h5]
end Go.Proofs.YtamcehfcjcmpmaaGreatDoor
/- What serial's search looks for: rows of stories, one behind the other. Plain facts; no program is walked. -/
namespace Go.Proofs.YtamcehfcjcmpmaaGreatDoor
open Go.RowKit

/-- a story with its group and its hits -/
structure Item where
  s : Story
  g : List Call0
  hs : List Bool
/-- is it answered so behind such a store? -/
def Item.ok (x : Item) (S : Shelf) : Bool := answeredB x.s x.hs (apA x.s.c x.g S)
def Item.next (x : Item) (S : Shelf) : Shelf := apS x.s.c x.g S
/-- may the i-th be the next one, where d are those that were? -/
def freeAt (L : List Item) (d i : Nat) : Prop := ∃ h : i < L.length, d.testBit i = false ∧ ∀ j (h' : j < L.length), j ≠ i → d.testBit j = false → befB L[j].s L[i].s = false
/-- a row that leads from those done, and a store, to the end -/
inductive Path (L : List Item) (must : Nat) : Nat → Shelf → List Nat → Prop
  | fin {d S} : d &&& must = must → Path L must d S []
  | step {d S i R} (h : i < L.length) : freeAt L d i → L[i].ok S = true → Path L must (d ||| 1 <<< i) (L[i].next S) R → Path L must d S (i :: R)
def Leads (L : List Item) (must d : Nat) (S : Shelf) : Prop := ∃ R, Path L must d S R
/-- the i-th as the next one leads to the end -/
def LeadsBy (L : List Item) (must d : Nat) (S : Shelf) (i : Nat) : Prop := ∃ h : i < L.length, freeAt L d i ∧ L[i].ok S = true ∧ Leads L must (d ||| 1 <<< i) (L[i].next S)
theorem leads_iff {L : List Item} {must d : Nat} {S : Shelf} : Leads L must d S ↔ d &&& must = must ∨ ∃ i, LeadsBy L must d S i := by
  constructor
  · rintro ⟨R, h⟩
    cases h with
    | fin h => exact .inl h
    | step hi h1 h2 h3 => exact .inr ⟨_, hi, h1, h2, _, h3⟩
  · rintro (h | ⟨i, hi, h1, h2, R, h3⟩)
    · exact ⟨[], .fin h⟩
    · exact ⟨i :: R, .step hi h1 h2 h3⟩
/-- how many of n are done -/
def cntD (n d : Nat) : Nat := ((List.range n).filter fun i => d.testBit i).length
theorem cntD_le (n d : Nat) : cntD n d ≤ n := by
  have := List.length_filter_le (fun i => d.testBit i) (List.range n)
  simpa [cntD] using this
theorem filter_more {l : List Nat} (hn : l.Nodup) {p q : Nat → Bool} {i : Nat} (hi : i ∈ l) (hp : p i = false) (hq : ∀ j, q j = (p j || decide (j = i))) : (l.filter q).length = (l.filter p).length + 1 := by
  induction l with
  | nil => simp at hi
  | cons a l ih =>
    rw [List.nodup_cons] at hn
    by_cases ha : a = i
    · subst ha
      have hsame : l.filter q = l.filter p := List.filter_congr fun x hx => by
        rw [hq x]
        have : x ≠ a := fun e => hn.1 (e ▸ hx)
        simp [this]
      rw [List.filter_cons_of_pos (by rw [hq]; simp), List.filter_cons_of_neg (by simp [hp]), hsame]
      rfl
    · have hi' : i ∈ l := by
        rcases List.mem_cons.1 hi with h | h
        · exact absurd h.symm ha
        · exact h
      have hqa : q a = p a := by rw [hq]; simp [ha]
      have := ih hn.2 hi'
      by_cases h : p a = true
      · rw [List.filter_cons_of_pos (by rw [hqa]; exact h), List.filter_cons_of_pos h]
        simp only [List.length_cons]
        omega
      · rw [List.filter_cons_of_neg (by rw [hqa]; exact h), List.filter_cons_of_neg h]
        exact this
theorem cntD_set {n d i : Nat} (hi : i < n) (h : d.testBit i = false) : cntD n (d ||| 1 <<< i) = cntD n d + 1 :=
  filter_more List.nodup_range (List.mem_range.2 hi) h fun j => testBit_set d i j
/-- what was tried: of each, either none leads on from it, or fewer were done there -/
def TriedOk (L : List Item) (must k : Nat) (T : Nat → List UInt8 → Prop) : Prop := ∀ d t, T d t → (∀ S, textL S = t → ¬ Leads L must d S) ∨ cntD L.length d < k
theorem TriedOk.mono {L : List Item} {must k k' : Nat} {T : Nat → List UInt8 → Prop} (h : TriedOk L must k T) (hk : k ≤ k') : TriedOk L must k' T := fun d t ht => (h d t ht).imp id fun h => by omega
/-- what is tried anew, none leads on from -/
def TriedMore (L : List Item) (must : Nat) (T T' : Nat → List UInt8 → Prop) : Prop := (∀ d t, T d t → T' d t) ∧ ∀ d t, T' d t → T d t ∨ ∀ S, textL S = t → ¬ Leads L must d S
theorem TriedMore.refl {L : List Item} {must : Nat} {T : Nat → List UInt8 → Prop} : TriedMore L must T T := ⟨fun _ _ h => h, fun _ _ h => .inl h⟩
theorem TriedMore.trans {L : List Item} {must : Nat} {T T' T'' : Nat → List UInt8 → Prop} (h : TriedMore L must T T') (h' : TriedMore L must T' T'') : TriedMore L must T T'' :=
  ⟨fun d t ht => h'.1 d t (h.1 d t ht), fun d t ht => by
    rcases h'.2 d t ht with h1 | h1
    · exact h.2 d t h1
    · exact .inr h1⟩
theorem TriedMore.ok {L : List Item} {must k : Nat} {T T' : Nat → List UInt8 → Prop} (h : TriedMore L must T T') (ho : TriedOk L must k T) : TriedOk L must k T' := fun d t ht => by
  rcases h.2 d t ht with h1 | h1
  · exact ho d t h1
  · exact .inl h1
/-- what was tried with fewer done, or in vain, leads nowhere -/
theorem tried_dead {L : List Item} {must d : Nat} {S : Shelf} {T : Nat → List UInt8 → Prop} (h : TriedOk L must (cntD L.length d) T) (ht : T d (textL S)) : ¬ Leads L must d S := by
  rcases h d _ ht with h1 | h1
  · exact h1 S rfl
  · omega
def addT (T : Nat → List UInt8 → Prop) (d : Nat) (t : List UInt8) : Nat → List UInt8 → Prop := fun d' t' => T d' t' ∨ d' = d ∧ t' = t
theorem addT_ok {L : List Item} {must d i : Nat} {S : Shelf} {T : Nat → List UInt8 → Prop} (h : TriedOk L must (cntD L.length d) T) (hi : i < L.length) (hb : d.testBit i = false) : TriedOk L must (cntD L.length (d ||| 1 <<< i)) (addT T d (textL S)) := by
  rw [cntD_set hi hb]
  rintro d' t' (h1 | ⟨rfl, rfl⟩)
  · exact (h d' t' h1).imp id fun h => by omega
  · exact .inr (by omega)
theorem addT_more {L : List Item} {must d : Nat} {S : Shelf} {T T' : Nat → List UInt8 → Prop} (h : TriedMore L must (addT T d (textL S)) T') (hd : ¬ Leads L must d S) : TriedMore L must T T' :=
  ⟨fun d' t ht => h.1 d' t (.inl ht), fun d' t ht => by
    rcases h.2 d' t ht with (h1 | ⟨rfl, rfl⟩) | h1
    · exact .inl h1
    · exact .inr fun S' hS' => by rw [text_inj hS']; exact hd
    · exact .inr h1⟩
end Go.Proofs.YtamcehfcjcmpmaaGreatDoor
namespace Go.Proofs.YtamcehfcjcmpmaaGreatDoor
open Go.RowKit Go.MapKept
open Go.ChangeMaps (setBlock)
open Go.WideMaps (KeyLaw)

def stKey (d : Nat) (t : ByteArray) : Value := .agg #[.int .u64 (d : Int), .string t]
theorem stKey_inj {d d' : Nat} {t t' : ByteArray} (h : stKey d t = stKey d' t') : d = d' ∧ t = t' := by
  unfold stKey at h
  simp at h
  exact ⟨by omega, h.2⟩
def InS (d : Nat) (t : ByteArray) : Prop := ∃ l, keyOf Tryz.prog 82 (stKey d t) = some l
set_option maxRecDepth 100000 in
theorem stKey_law : KeyLaw Tryz.prog 82 := deep_law_gate (by kernel_rfl) (by decide +kernel) (by decide +kernel) (by kernel_rfl) (by kernel_rfl)
theorem inS (d : Nat) (t : ByteArray) (h : d < 18446744073709551616) (hts : t.size ≤ 1000000000) : InS d t := by
  have hk : Tryz.prog.keyType 82 = true := by kernel_rfl
  have hc : Tryz.prog.cellsOf 82 = 2 := by kernel_rfl
  have hi : Tryz.prog.cellsOf 67 = 1 := by kernel_rfl
  have hs : Tryz.prog.cellsOf 9 = 1 := by kernel_rfl
  have h1 : (Lit.int .u64 (d : Int)).wf = true := by
    have e1 : IntKind.u64.min = 0 := by rfl
    have e2 : IntKind.u64.max = 18446744073709551615 := by rfl
    simp [Lit.wf, e1, e2]
    omega
  have hf : (stKey d t).formed Tryz.prog 82 = true := by simp [stKey, Value.formed, Tryz.underlying82, hc]
  obtain ⟨m, hm⟩ : ∃ m, Tryz.prog.types.size = m + 1 := ⟨_, rfl⟩
  have hl : ∃ ls, Tryz.prog.keyLits (Tryz.prog.types.size + 1) 82 (stKey d t).cells.toList = some ls := by
    rw [hm]
    simp [Program.keyLits, Tryz.underlying82, Tryz.underlying67, Tryz.underlying9, stKey, Value.cells, hc, hi, hs, h1, show t.size ≤ maxLen by unfold maxLen; omega]
  obtain ⟨ls, hl⟩ := hl
  refine ⟨.string (keyBytes ls), ?_⟩
  unfold keyOf
  rw [Tryz.underlying82]
  simp only [hk, hf, Bool.and_self, if_true, hl, Option.map_some]
/-- the entries are those that were tried -/
structure CMS (es : Array MapEntry) (clock : Nat) (T : Nat → List UInt8 → Prop) : Prop where
  st : Stamped es clock
  val : ∀ e ∈ es.toList, ∃ d t, InS d t ∧ e.key = stKey d t ∧ e.val = .int .i64 1 ∧ T d (bytesOf t)
  has : ∀ d t, T d (bytesOf t) → ∃ e ∈ es.toList, e.key = stKey d t
theorem CMS.keys {es : Array MapEntry} {clock : Nat} {T : Nat → List UInt8 → Prop} (h : CMS es clock T) : ∀ e ∈ es.toList, ∃ l, keyOf Tryz.prog 82 e.key = some l := fun e he => by
  obtain ⟨d, t, ⟨l, hl⟩, hk, _⟩ := h.val e he
  exact ⟨l, by rw [hk]; exact hl⟩
theorem CMS.nil : CMS #[] 0 fun _ _ => False := ⟨stamped_empty 0, by simp, fun _ _ h => h.elim⟩
section
variable {es : Array MapEntry} {clock r : Nat} {T : Nat → List UInt8 → Prop} {w : World} {d : Nat} {t : ByteArray}
theorem CMS.look_yes (h : CMS es clock T) (hb : w.heap[r]? = some (.map es clock)) (hx : InS d t) (ht0 : T d (bytesOf t)) : (Instr.lookup 68 (.map (some r)) (stKey d t) false).run Tryz.prog w = .ok (.int .i64 1) w := by
  obtain ⟨l, hl⟩ := hx
  have ht : Tryz.prog.underlying 68 = some (.map 82 3) := Tryz.underlying68
  rcases stKey_law.find w hl es.toList h.keys with ⟨h1, h2⟩ | ⟨j, e0, h1, h2, h3⟩
  · obtain ⟨e, he, hk⟩ := h.has d t ht0
    exact absurd hk (h2 e he)
  · obtain ⟨_, _, _, _, hv, _⟩ := h.val e0 (List.mem_of_getElem? h2)
    simp [Instr.lookup, run_underlying ht, MapKept.run_getObj_map hb, (fun em => stKey_law.check w em hl), h1, hv, Result.andThen]
theorem CMS.look_no (h : CMS es clock T) (hb : w.heap[r]? = some (.map es clock)) (hx : InS d t) (ht0 : ¬ T d (bytesOf t)) : (Instr.lookup 68 (.map (some r)) (stKey d t) false).run Tryz.prog w = .ok (.int .i64 0) w := by
  obtain ⟨l, hl⟩ := hx
  have ht : Tryz.prog.underlying 68 = some (.map 82 3) := Tryz.underlying68
  have hz : (zeroValue 3).run Tryz.prog w = .ok (.int .i64 0) w := by kernel_rfl
  rcases stKey_law.find w hl es.toList h.keys with ⟨h1, h2⟩ | ⟨j, e0, h1, h2, h3⟩
  · simp [Instr.lookup, run_underlying ht, MapKept.run_getObj_map hb, (fun em => stKey_law.check w em hl), h1, hz, Result.andThen]
  · obtain ⟨d', t', _, hk, _, hT⟩ := h.val e0 (List.mem_of_getElem? h2)
    obtain ⟨rfl, rfl⟩ := stKey_inj (hk.symm.trans h3)
    exact absurd hT ht0
theorem CMS.put_all (h : CMS es clock T) (hx : InS d t) (ht0 : ¬ T d (bytesOf t)) :
    ∃ es' clock', (∀ W : World, W.heap[r]? = some (.map es clock) → (Instr.mapUpdate 68 (.map (some r)) (stKey d t) (.int .i64 1)).run Tryz.prog W = .ok () (setBlock W r (.map es' clock'))) ∧ CMS es' clock' (addT T d (bytesOf t)) := by
  have hx0 := hx
  obtain ⟨l, hl⟩ := hx
  have ht : Tryz.prog.underlying 68 = some (.map 82 3) := Tryz.underlying68
  have hno : ∀ e ∈ es.toList, e.key ≠ stKey d t := fun e he hk => by
    obtain ⟨d', t', _, hk', _, hT⟩ := h.val e he
    obtain ⟨rfl, rfl⟩ := stKey_inj (hk'.symm.trans hk)
    exact ht0 hT
  refine ⟨es.push ⟨stKey d t, .int .i64 1, clock⟩, clock + 1, fun W hb => ?_, stamped_push h.st hno, ?_, ?_⟩
  · rcases stKey_law.find W hl es.toList h.keys with ⟨h1, h2⟩ | ⟨j, e0, h1, h2, h3⟩
    · simp [Instr.mapUpdate, run_underlying ht, MapKept.run_getObj_map hb, stKey_law.check W false hl, h1, MapKept.run_setObj_map _ hb, Result.andThen, setBlock]
    · exact absurd h3 (hno e0 (List.mem_of_getElem? h2))
  · intro e he
    simp only [Array.toList_push, List.mem_append, List.mem_singleton] at he
    rcases he with he | rfl
    · obtain ⟨d', t', a, b, c, e⟩ := h.val e he
      exact ⟨d', t', a, b, c, .inl e⟩
    · exact ⟨d, t, hx0, rfl, rfl, .inr ⟨rfl, rfl⟩⟩
  · rintro d' t' (h4 | ⟨rfl, h5⟩)
    · obtain ⟨e, he, hk⟩ := h.has d' t' h4
      exact ⟨e, by simp only [Array.toList_push, List.mem_append]; exact .inl he, hk⟩
    · rw [bytesOf_inj h5]
      exact ⟨_, by simp only [Array.toList_push, List.mem_append, List.mem_singleton]; exact .inr rfl, rfl⟩
end
end Go.Proofs.YtamcehfcjcmpmaaGreatDoor
