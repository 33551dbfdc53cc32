/- What a call does to a store and answers, groups too; what becomes of a store that rises. Plain facts; no program is named. -/
import Derived.Test.YtamcehfcjcmpmaaGreatDoorIdl12
import Derived.Test.YtamcehfcjcmpmaaGreatDoorDrop
import Derived.Test.YtamcehfcjcmpmaaGreatDoorIdl10
/- What a call of each kind does: the table of contracts; ideal.Apply of any call that is no group. -/
namespace Go.Proofs.YtamcehfcjcmpmaaGreatDoor
open Go.RowKit

def doS (c : Call0) (s : Shelf) : Shelf :=
  if c.kind = 2 then ⟨setP s.pairs c.key c.val, s.queue⟩ else if c.kind = 3 then ⟨dropK c.key s.pairs, s.queue⟩ else if c.kind = 4 then ⟨s.pairs, s.queue ++ [c.val]⟩ else if c.kind = 5 then ⟨s.pairs, s.queue.tail⟩ else s
def doA (c : Call0) (s : Shelf) (a : Ans) : Ans :=
  if c.kind = 1 then { a with value := (getD' s.pairs c.key).1, found := (getD' s.pairs c.key).2 } else if c.kind = 2 ∨ c.kind = 3 then { a with found := hasK s.pairs c.key }
  else if c.kind = 5 then { a with value := s.queue.headD ByteArray.empty, found := !s.queue.isEmpty } else if c.kind = 6 then { a with pairs := a.pairs ++ scanned c.key c.to s.pairs } else a
/-- the contract of a kind's doing -/
def DoFits (c : Call0) (f : Nat) : Prop :=
  (∀ args W, (callFunc f args).run Tryz.prog W = .ok (.enter f args) W) ∧
  ∀ (K : Nat → Prop) (w : World) (p q : Nat) (s : Shelf) (a : Ans), SA K w p q s a → (∀ j, w.heap.size ≤ j → K j) → s.pairs.length ≤ 100000 → s.queue.length ≤ 100000 → a.pairs.length ≤ 100000 →
    Calls Tryz.prog f #[.pointer (some ⟨p, 0, none⟩), .agg #[.int .i64 c.kind, .string c.key, .string c.val, .string c.to, .slice c.gA c.gn c.gc], .pointer (some ⟨q, 0, none⟩)] w (GivesDo K p q (doS c s) (doA c s a) w)
theorem call_1 (args : Array Value) (W : World) : (callFunc 61 args).run Tryz.prog W = .ok (.enter 61 args) W := by simp [callFunc, Tryz.func61, Tryz.f61, mark]
theorem call_2 (args : Array Value) (W : World) : (callFunc 63 args).run Tryz.prog W = .ok (.enter 63 args) W := by simp [callFunc, Tryz.func63, Tryz.f63, mark]
theorem call_3 (args : Array Value) (W : World) : (callFunc 65 args).run Tryz.prog W = .ok (.enter 65 args) W := by simp [callFunc, Tryz.func65, Tryz.f65, mark]
theorem call_4 (args : Array Value) (W : World) : (callFunc 67 args).run Tryz.prog W = .ok (.enter 67 args) W := by simp [callFunc, Tryz.func67, Tryz.f67, mark]
theorem call_5 (args : Array Value) (W : World) : (callFunc 68 args).run Tryz.prog W = .ok (.enter 68 args) W := by simp [callFunc, Tryz.func68, Tryz.f68, mark]
theorem call_6 (args : Array Value) (W : World) : (callFunc 71 args).run Tryz.prog W = .ok (.enter 71 args) W := by simp [callFunc, Tryz.func71, Tryz.f71, mark]
theorem call_scan (args : Array Value) (W : World) : (callFunc 70 args).run Tryz.prog W = .ok (.enter 70 args) W := by simp [callFunc, Tryz.func70, Tryz.f70, mark]
theorem do_fits (c : Call0) (h : c.kind = 1 ∨ c.kind = 2 ∨ c.kind = 3 ∨ c.kind = 4 ∨ c.kind = 5 ∨ c.kind = 6 ∨ c.kind = 8) :
    ∃ i f, Instr.findNow (.int .i64) (.int .i64 c.kind) tableD.toList 0 = some (some (i, .func (.func f) #[] #[])) ∧ DoFits c f := by
  rcases h with h | h | h | h | h | h | h
  · refine ⟨0, 61, tableD_at (by simp [h]), call_1, fun K w p q s a hsa hK h1 h2 h3 => ?_⟩
    have := do_get K p q s a c w hsa hK
    simpa [doS, doA, h] using this
  · refine ⟨1, 63, tableD_at (by simp [h]), call_2, fun K w p q s a hsa hK h1 h2 h3 => ?_⟩
    have := do_put K p q s a c w hsa hK h1
    simpa [doS, doA, h] using this
  · refine ⟨2, 65, tableD_at (by simp [h]), call_3, fun K w p q s a hsa hK h1 h2 h3 => ?_⟩
    have := do_del K p q s a c w hsa hK
    simpa [doS, doA, h] using this
  · refine ⟨3, 67, tableD_at (by simp [h]), call_4, fun K w p q s a hsa hK h1 h2 h3 => ?_⟩
    have := do_enq K p q s a c w hsa hK h2
    simpa [doS, doA, h] using this
  · refine ⟨4, 68, tableD_at (by simp [h]), call_5, fun K w p q s a hsa hK h1 h2 h3 => ?_⟩
    have := do_deq K p q s a c w hsa hK
    simpa [doS, doA, h] using this
  · refine ⟨5, 70, tableD_at (by simp [h]), call_scan, fun K w p q s a hsa hK h1 h2 h3 => ?_⟩
    have := do_scan K p q s a c w hsa hK h1 h3
    simpa [doS, doA, h] using this
  · refine ⟨6, 71, tableD_at (by simp [h]), call_6, fun K w p q s a hsa hK h1 h2 h3 => ?_⟩
    have := do_sync K p q s a c w hsa
    simpa [doS, doA, h] using this
theorem apply_flat (s : Shelf) (PA : Option Addr) (pc : Nat) (QA : Option Addr) (qc : Nat) (c : Call0) (g : List Call0) (w : World) (h : ShIn w w.heap.size PA pc QA qc s) (hp : s.pairs.length ≤ 100000) (hq : s.queue.length ≤ 100000) (hc : CallIn w w.heap.size c g)
    (hgood : goodI c g = 0) (h7 : c.kind ≠ 7) (hk : c.kind = 1 ∨ c.kind = 2 ∨ c.kind = 3 ∨ c.kind = 4 ∨ c.kind = 5 ∨ c.kind = 6 ∨ c.kind = 8) :
    Calls Tryz.prog 35 #[.agg #[.slice PA s.pairs.length pc, .slice QA s.queue.length qc], .agg #[.int .i64 c.kind, .string c.key, .string c.val, .string c.to, .slice c.gA c.gn c.gc]] w (GivesAp (doS c s) (doA c s (ans0 0)) w) := by
  obtain ⟨i, f, hf, hfc, hdo⟩ := do_fits c hk
  exact apply_plain s PA pc QA qc c g w h hp hq hc hgood h7 i f hf _ _ hfc fun K W p q hsa hK => hdo K W p q s (ans0 0) hsa hK hp hq (by simp [ans0])
end Go.Proofs.YtamcehfcjcmpmaaGreatDoor
/- Keys in their order: the model's 'less' on texts, and pairs that rise by it. Plain facts; no program is named. -/
namespace Go.Proofs.YtamcehfcjcmpmaaGreatDoor
open Go.RowKit

theorem bl_irrefl : ∀ x : List UInt8, Op.bytesLess x x = false
  | [] => rfl
  | a :: x => by simp [Op.bytesLess, bl_irrefl x]
theorem bl_trans : ∀ x y z : List UInt8, Op.bytesLess x y = true → Op.bytesLess y z = true → Op.bytesLess x z = true
  | _, [], [], _, h2 => by simp [Op.bytesLess] at h2
  | _, _ :: _, [], _, h2 => by simp [Op.bytesLess] at h2
  | [], _, _ :: _, _, _ => by simp [Op.bytesLess]
  | _ :: _, [], _ :: _, h1, _ => by simp [Op.bytesLess] at h1
  | a :: x, b :: y, c :: z, h1, h2 => by
    simp only [Op.bytesLess, Bool.or_eq_true, decide_eq_true_eq, Bool.and_eq_true, beq_iff_eq] at h1 h2 ⊢
    rcases h1 with h1 | ⟨rfl, h1⟩ <;> rcases h2 with h2 | ⟨rfl, h2⟩
    · exact .inl (UInt8.lt_trans h1 h2)
    · exact .inl h1
    · exact .inl h2
    · exact .inr ⟨rfl, bl_trans x y z h1 h2⟩
theorem bl_total : ∀ x y : List UInt8, Op.bytesLess x y = false → Op.bytesLess y x = false → x = y
  | [], [], _, _ => rfl
  | [], _ :: _, h, _ => by simp [Op.bytesLess] at h
  | _ :: _, [], _, h => by simp [Op.bytesLess] at h
  | a :: x, b :: y, h1, h2 => by
    simp only [Op.bytesLess, Bool.or_eq_false_iff, decide_eq_false_iff_not, Bool.and_eq_false_iff, beq_eq_false_iff_ne] at h1 h2
    have e : a = b := UInt8.le_antisymm (UInt8.not_lt.1 h2.1) (UInt8.not_lt.1 h1.1)
    subst e
    rw [bl_total x y (by simpa using h1.2) (by simpa using h2.2)]
theorem bl_cmp : ∀ x y : List UInt8, Lib.compareBytes x y = if Op.bytesLess x y = true then -1 else if Op.bytesLess y x = true then 1 else 0
  | [], [] => rfl
  | [], _ :: _ => rfl
  | _ :: _, [] => rfl
  | a :: x, b :: y => by
    unfold Lib.compareBytes
    simp only [Op.bytesLess, Bool.or_eq_true, decide_eq_true_eq, Bool.and_eq_true, beq_iff_eq]
    by_cases h1 : a < b
    · simp [h1]
    · by_cases h2 : b < a
      · have : a ≠ b := fun e => by subst e; exact UInt8.lt_irrefl _ h2
        simp [h1, h2, this]
      · have e : a = b := UInt8.le_antisymm (UInt8.not_lt.1 h2) (UInt8.not_lt.1 h1)
        subst e
        simp [h1, bl_cmp x y]
theorem toList_inj {a b : ByteArray} (h : a.toList = b.toList) : a = b := by
  rw [Lib.toList_data, Lib.toList_data] at h
  exact ByteArray.ext (Array.toList_inj.1 h)
theorem toList_iff {a b : ByteArray} : a.toList = b.toList ↔ a = b := ⟨toList_inj, fun h => by rw [h]⟩

/-- a is less than b -/
def kl (a b : ByteArray) : Bool := Op.bytesLess a.toList b.toList
theorem kl_irrefl (a : ByteArray) : kl a a = false := bl_irrefl _
theorem kl_trans {a b c : ByteArray} (h : kl a b = true) (k : kl b c = true) : kl a c = true := bl_trans _ _ _ h k
theorem kl_total {a b : ByteArray} (h : kl a b = false) (k : kl b a = false) : a = b := toList_inj (bl_total _ _ h k)
theorem kl_asymm {a b : ByteArray} (h : kl a b = true) : kl b a = false := by
  cases e : kl b a with
  | false => rfl
  | true => have := kl_trans h e; rw [kl_irrefl] at this; cases this
theorem kl_ne {a b : ByteArray} (h : kl a b = true) : a ≠ b := fun e => by subst e; rw [kl_irrefl] at h; cases h
theorem cmpB_kl (a b : ByteArray) : cmpB a b = if kl a b = true then -1 else if kl b a = true then 1 else 0 := by
  unfold cmpB kl
  rw [bl_cmp, Lib.toList_data, Lib.toList_data]
theorem eqK_iff {key : ByteArray} {p : Pair} : eqK key p = true ↔ p.key = key := by
  unfold eqK
  rw [beq_iff_eq, toList_iff]
theorem gtK_kl {key : ByteArray} {p : Pair} : gtK key p = kl key p.key := by
  unfold gtK
  cases h1 : Op.bytesLess p.key.toList key.toList with
  | true => rw [kl_asymm (a := p.key) h1]; rfl
  | false =>
    by_cases e : p.key = key
    · subst e; rw [kl_irrefl]; simp
    · have e' : (p.key.toList == key.toList) = false := by rw [beq_eq_false_iff_ne]; exact fun h => e (toList_inj h)
      rw [e']
      cases h2 : kl key p.key with
      | true => rfl
      | false => exact absurd (kl_total (a := p.key) h1 h2) e

/-- do the keys rise? -/
def mayB : List Pair → Bool
  | [] => true
  | [_] => true
  | p :: q :: r => kl p.key q.key && mayB (q :: r)
theorem mayB_iff : ∀ l : List Pair, mayB l = true ↔ ∀ i, (h : i + 1 < l.length) → kl (l[i]'(by omega)).key l[i + 1].key = true
  | [] => by simp [mayB]
  | [_] => by simp [mayB]
  | p :: q :: r => by
    rw [mayB, Bool.and_eq_true, mayB_iff (q :: r)]
    constructor
    · rintro ⟨h0, h1⟩ i h
      match i with
      | 0 => exact h0
      | i + 1 => exact h1 i (by simpa using h)
    · intro h
      exact ⟨h 0 (by simp), fun i hi => h (i + 1) (by simpa using hi)⟩
theorem mayB_pair : ∀ l : List Pair, mayB l = true ↔ l.Pairwise (fun p q => kl p.key q.key = true)
  | [] => by simp [mayB]
  | [_] => by simp [mayB]
  | p :: q :: r => by
    rw [mayB, Bool.and_eq_true, mayB_pair (q :: r), List.pairwise_cons (l := q :: r)]
    constructor
    · rintro ⟨h0, h1⟩
      refine ⟨fun x hx => ?_, h1⟩
      rcases List.mem_cons.1 hx with rfl | hx
      · exact h0
      · exact kl_trans h0 ((List.pairwise_cons.1 h1).1 x hx)
    · rintro ⟨h0, h1⟩
      exact ⟨h0 q (by simp), h1⟩
theorem mayB_drop {l : List Pair} {key : ByteArray} (h : mayB l = true) : mayB (dropK key l) = true := by
  rw [mayB_pair] at *
  exact h.filter _
theorem findIdx_none {α : Type} {p : α → Bool} {l : List α} (h : ¬ l.findIdx p < l.length) : ∀ x ∈ l, p x = false := by
  intro x hx
  cases e : p x with
  | false => rfl
  | true => exact absurd (List.findIdx_lt_length_of_exists ⟨x, hx, e⟩) h
theorem mayB_set {l : List Pair} {key val : ByteArray} (h : mayB l = true) : mayB (setP l key val) = true := by
  unfold setP
  split
  · rename_i hlt
    rw [mayB_iff] at *
    have hk : ∀ i (hi : i < l.length), ((l.modify (l.findIdx (eqK key)) fun p => ⟨p.key, val⟩)[i]'(by simpa using hi)).key = l[i].key := by
      intro i hi
      rw [List.getElem_modify]
      split <;> rfl
    intro i hi
    have hi' : i + 1 < l.length := by simpa using hi
    rw [hk i (by omega), hk (i + 1) hi']
    exact h i hi'
  · rename_i hn
    rw [mayB_pair] at *
    unfold ins
    have hne := findIdx_none hn
    have hno : ∀ x ∈ l, x.key ≠ key := fun x hx e => by have := hne x hx; rw [eqK_iff.2 e] at this; cases this
    have hsplit : (l.take (l.findIdx (gtK key)) ++ l.drop (l.findIdx (gtK key))).Pairwise (fun p q => kl p.key q.key = true) := by rw [List.take_append_drop]; exact h
    obtain ⟨p1, p2, p3⟩ := List.pairwise_append.1 hsplit
    have hlow : ∀ x ∈ l.take (l.findIdx (gtK key)), kl x.key key = true := by
      intro x hx
      obtain ⟨i, hi, rfl⟩ := List.getElem_of_mem hx
      rw [List.length_take] at hi
      rw [List.getElem_take]
      have hgt : gtK key (l[i]'(by omega)) = false := by
        have := List.not_of_lt_findIdx (p := gtK key) (xs := l) (i := i) (by omega)
        simpa using this
      rw [gtK_kl] at hgt
      cases e : kl (l[i]'(by omega)).key key with
      | true => rfl
      | false => exact absurd (kl_total e hgt) (hno _ (List.getElem_mem _))
    have hhigh : ∀ x ∈ l.drop (l.findIdx (gtK key)), kl key x.key = true := by
      intro x hx
      by_cases hlt : l.findIdx (gtK key) < l.length
      · rw [List.drop_eq_getElem_cons hlt] at hx p2
        have h0 : kl key (l[l.findIdx (gtK key)]).key = true := by rw [← gtK_kl]; exact List.findIdx_getElem
        rcases List.mem_cons.1 hx with rfl | hx
        · exact h0
        · exact kl_trans h0 ((List.pairwise_cons.1 p2).1 x hx)
      · rw [List.drop_eq_nil_of_le (by omega)] at hx
        cases hx
    refine List.pairwise_append.2 ⟨p1, List.pairwise_cons.2 ⟨hhigh, p2⟩, fun x hx y hy => ?_⟩
    rcases List.mem_cons.1 hy with rfl | hy
    · exact hlow x hx
    · exact p3 x hx y hy

/-! ### what is got -/
theorem getD'_none {l : List Pair} {key : ByteArray} (h : ∀ x ∈ l, x.key ≠ key) : getD' l key = (ByteArray.empty, false) := by
  unfold getD'
  rw [List.find?_eq_none.2 fun x hx => by rw [eqK_iff]; exact h x hx]
theorem getD'_hasK (l : List Pair) (key : ByteArray) : (getD' l key).2 = hasK l key := by
  unfold getD' hasK
  cases h : l.find? (eqK key) with
  | none =>
    rw [List.find?_eq_none] at h
    symm
    rw [decide_eq_false_iff_not]
    intro hlt
    exact h _ (List.getElem_mem hlt) List.findIdx_getElem
  | some p =>
    symm
    rw [decide_eq_true_iff]
    exact List.findIdx_lt_length_of_exists ⟨p, List.mem_of_find?_eq_some h, List.find?_some h⟩
theorem find_append {q : Pair → Bool} (a b : List Pair) : (a ++ b).find? q = ((a.find? q).or (b.find? q)) := List.find?_append
theorem getD'_cons (p : Pair) (l : List Pair) (key : ByteArray) : getD' (p :: l) key = if p.key = key then (p.val, true) else getD' l key := by
  unfold getD'
  rw [List.find?_cons]
  by_cases h : p.key = key
  · rw [if_pos h, eqK_iff.2 h]
  · rw [if_neg h]
    have : eqK key p = false := by rw [Bool.eq_false_iff]; exact fun e => h (eqK_iff.1 e)
    rw [this]
theorem getD'_append (a b : List Pair) (key : ByteArray) : getD' (a ++ b) key = if ∃ x ∈ a, x.key = key then getD' a key else getD' b key := by
  induction a with
  | nil => simp
  | cons p a ih =>
    rw [List.cons_append, getD'_cons, getD'_cons, ih]
    by_cases h : p.key = key
    · simp [h]
    · simp [h]
theorem getD'_drop_same (l : List Pair) (key : ByteArray) : getD' (dropK key l) key = (ByteArray.empty, false) :=
  getD'_none fun x hx e => by
    have := (List.mem_filter.1 hx).2
    rw [eqK_iff.2 e] at this
    cases this
theorem getD'_drop_other {l : List Pair} {key o : ByteArray} (h : o ≠ key) : getD' (dropK key l) o = getD' l o := by
  induction l with
  | nil => rfl
  | cons p l ih =>
    unfold dropK at *
    rw [List.filter_cons]
    split
    · rw [getD'_cons, getD'_cons, ih]
    · rename_i hp
      have hp' : p.key = key := by simpa [eqK_iff] using hp
      rw [getD'_cons, if_neg (by rw [hp']; exact Ne.symm h), ih]
theorem getD'_modify {l : List Pair} {key val : ByteArray} (h : l.findIdx (eqK key) < l.length) (o : ByteArray) :
    getD' (l.modify (l.findIdx (eqK key)) fun p => ⟨p.key, val⟩) o = if o = key then (val, true) else getD' l o := by
  induction l with
  | nil => simp at h
  | cons p l ih =>
    by_cases hp : p.key = key
    · have e : (p :: l).findIdx (eqK key) = 0 := by rw [List.findIdx_cons, eqK_iff.2 hp]; rfl
      rw [e, List.modify_zero_cons, getD'_cons, getD'_cons]
      by_cases ho : o = key
      · subst ho; simp [hp]
      · have : ¬ p.key = o := fun e => ho (by rw [← e, hp])
        simp [ho, this]
    · have hq : eqK key p = false := by rw [Bool.eq_false_iff]; exact fun e => hp (eqK_iff.1 e)
      have e : (p :: l).findIdx (eqK key) = l.findIdx (eqK key) + 1 := by rw [List.findIdx_cons, hq]; rfl
      rw [e] at h ⊢
      rw [List.modify_succ_cons, getD'_cons, getD'_cons, ih (by simpa using h)]
      by_cases hpo : p.key = o
      · have ho : ¬ o = key := fun e => hp (by rw [hpo, e])
        simp [hpo, ho]
      · simp [hpo]
theorem getD'_set (l : List Pair) (key val o : ByteArray) : getD' (setP l key val) o = if o = key then (val, true) else getD' l o := by
  unfold setP
  split
  · exact getD'_modify ‹_› o
  · rename_i hn
    have hne := findIdx_none hn
    have hno : ∀ x ∈ l, x.key ≠ key := fun x hx e => by have := hne x hx; rw [eqK_iff.2 e] at this; cases this
    unfold ins
    rw [getD'_append, getD'_cons]
    by_cases ho : o = key
    · subst ho
      rw [if_neg (fun ⟨x, hx, e⟩ => hno x (List.mem_of_mem_take hx) e), if_pos rfl, if_pos rfl]
    · rw [if_neg (Ne.symm ho), if_neg ho]
      have := getD'_append (l.take (l.findIdx (gtK key))) (l.drop (l.findIdx (gtK key))) o
      rw [List.take_append_drop] at this
      exact this.symm
theorem setP_len (l : List Pair) (key val : ByteArray) : (setP l key val).length ≤ l.length + 1 := by
  unfold setP
  split
  · simp
  · rw [ins_length _ _ _ (List.findIdx_le_length)]; omega
theorem dropK_le (l : List Pair) (key : ByteArray) : (dropK key l).length ≤ l.length := List.length_filter_le _ _
end Go.Proofs.YtamcehfcjcmpmaaGreatDoor
namespace Go.Proofs.YtamcehfcjcmpmaaGreatDoor
open Go.RowKit

def doAll (g : List Call0) (s : Shelf) : Shelf := g.foldl (fun s x => doS x s) s
def hitsOf : List Call0 → Shelf → List Bool
  | [], _ => []
  | x :: g, s => (doA x s (ans0 0)).found :: hitsOf g (doS x s)
def apS (c : Call0) (g : List Call0) (s : Shelf) : Shelf := if goodI c g = 0 then (if c.kind = 7 then doAll g s else doS c s) else s
def apA (c : Call0) (g : List Call0) (s : Shelf) : Ans := if goodI c g = 0 then (if c.kind = 7 then { ans0 0 with hits := hitsOf g s } else doA c s (ans0 0)) else ans0 (goodI c g)
theorem doAll_append (a b : List Call0) (s : Shelf) : doAll (a ++ b) s = doAll b (doAll a s) := by simp [doAll, List.foldl_append]
theorem hitsOf_append : ∀ (a b : List Call0) (s : Shelf), hitsOf (a ++ b) s = hitsOf a s ++ hitsOf b (doAll a s)
  | [], _, _ => rfl
  | x :: a, b, s => by
    rw [List.cons_append, hitsOf, hitsOf, hitsOf_append a b]
    rfl
theorem hitsOf_len : ∀ (a : List Call0) (s : Shelf), (hitsOf a s).length = a.length
  | [], _ => rfl
  | x :: a, s => by rw [hitsOf, List.length_cons, hitsOf_len a, List.length_cons]
theorem doAll_succ {g : List Call0} {k : Nat} (hk : k < g.length) (s : Shelf) : doAll (g.take (k + 1)) s = doS g[k] (doAll (g.take k) s) := by
  rw [List.take_succ_eq_append_getElem hk, doAll_append]; rfl
theorem hitsOf_succ {g : List Call0} {k : Nat} (hk : k < g.length) (s : Shelf) : hitsOf (g.take (k + 1)) s = hitsOf (g.take k) s ++ [(doA g[k] (doAll (g.take k) s) (ans0 0)).found] := by
  rw [List.take_succ_eq_append_getElem hk, hitsOf_append]; rfl
theorem hitsOf_get {g : List Call0} {k : Nat} (hk : k < g.length) (s : Shelf) : (hitsOf g s)[k]? = some (doA g[k] (doAll (g.take k) s) (ans0 0)).found := by
  have h := List.take_append_drop k g
  rw [List.drop_eq_getElem_cons hk] at h
  have h2 : hitsOf g s = hitsOf (g.take k) s ++ (doA g[k] (doAll (g.take k) s) (ans0 0)).found :: hitsOf (g.drop (k + 1)) (doS g[k] (doAll (g.take k) s)) := by
    conv => lhs; rw [← h, hitsOf_append]
    rfl
  have hl : (hitsOf (g.take k) s).length = k := by rw [hitsOf_len, List.length_take]; omega
  rw [h2, List.getElem?_append_right (by omega), hl, Nat.sub_self]
  rfl
theorem doS_len (c : Call0) (s : Shelf) : (doS c s).pairs.length ≤ s.pairs.length + 1 ∧ (doS c s).queue.length ≤ s.queue.length + 1 := by
  have h1 := setP_len s.pairs c.key c.val
  have h2 := dropK_le s.pairs c.key
  unfold doS
  repeat' split
  all_goals (refine ⟨?_, ?_⟩ <;> first | omega | (simp; done) | (simp; omega))
theorem doAll_len : ∀ (g : List Call0) (s : Shelf), (doAll g s).pairs.length ≤ s.pairs.length + g.length ∧ (doAll g s).queue.length ≤ s.queue.length + g.length
  | [], s => ⟨Nat.le_refl _, Nat.le_refl _⟩
  | x :: g, s => by
    have h := doAll_len g (doS x s)
    have h1 := doS_len x s
    simp only [List.length_cons]
    have e : doAll (x :: g) s = doAll g (doS x s) := rfl
    rw [e]
    omega
theorem grp_kind {c : Call0} {g : List Call0} (h : goodI c g = 0) (h7 : c.kind = 7) : ∀ x ∈ g, groupedB x.kind = true := by
  unfold goodI at h
  split at h
  · cases h
  · rename_i hs
    exact shape_flat (by simpa using hs) h7
theorem grouped_cases {k : Int} (h : groupedB k = true) : k = 2 ∨ k = 3 ∨ k = 4 := by
  unfold groupedB at h
  simp only [Bool.or_eq_true, beq_iff_eq] at h
  omega
theorem grp_good {c : Call0} {g : List Call0} (h : goodI c g = 0) (h7 : c.kind = 7) : ∀ x ∈ g, ∀ gx, goodI x gx = 0 := by
  intro x hx gx
  have hk := grp_kind h h7 x hx
  have hk3 := grouped_cases hk
  unfold goodI at h
  split at h
  · cases h
  rename_i hs
  split at h
  · cases h
  rename_i hl
  have hl' : flatLong x = false := by
    rw [Bool.not_eq_true, longB, if_pos h7, List.any_eq_false] at hl
    simpa using hl x hx
  have he : elemBad x = false := by
    rw [Bool.not_eq_false, shapeB] at hs
    obtain ⟨i, hi, rfl⟩ := List.getElem_of_mem hx
    cases e : elemBad g[i] with
    | false => rfl
    | true => have := groupOk_bad hi e; simp_all
  have hsx : shapeB x gx = true := by
    unfold elemBad at he
    rw [Bool.or_eq_false_iff] at he
    have h7x := grouped_not7 hk
    unfold shapeB
    rcases hk3 with e | e | e <;> simp_all [keyedB, groupedB]
  have hlx : longB x gx = false := by rw [longB, if_neg (grouped_not7 hk)]; exact hl'
  unfold goodI
  rw [hsx, hlx]
  rfl
theorem mayB_doS {c : Call0} {s : Shelf} (h : mayB s.pairs = true) : mayB (doS c s).pairs = true := by
  unfold doS
  repeat' split
  all_goals first | exact h | exact mayB_set h | exact mayB_drop h
theorem mayB_doAll : ∀ (g : List Call0) {s : Shelf}, mayB s.pairs = true → mayB (doAll g s).pairs = true
  | [], _, h => h
  | x :: g, _s, h => mayB_doAll g (mayB_doS (c := x) h)
theorem mayB_apS {c : Call0} {g : List Call0} {s : Shelf} (h : mayB s.pairs = true) : mayB (apS c g s).pairs = true := by
  unfold apS
  repeat' split
  · exact mayB_doAll g h
  · exact mayB_doS h
  · exact h
theorem apA_code (c : Call0) (g : List Call0) (s : Shelf) : (apA c g s).code = goodI c g := by
  unfold apA
  repeat' split
  · exact (by assumption : goodI c g = 0).symm
  · rename_i h _
    rw [h]
    unfold doA
    repeat' split
    all_goals rfl
  · rfl
end Go.Proofs.YtamcehfcjcmpmaaGreatDoor
