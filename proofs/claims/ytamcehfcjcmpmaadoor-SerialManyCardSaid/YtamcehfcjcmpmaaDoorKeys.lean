/- Keys in their order: the model's 'less' on texts, and pairs that rise by it. Plain facts; no program is named. -/
import Derived.Test.YtamcehfcjcmpmaaDoorIdl13
import Derived.Test.YtamcehfcjcmpmaaDoorDrop
namespace Go.Proofs.YtamcehfcjcmpmaaDoor
open Go.RowKit

theorem bl_irrefl : ∀ x : List UInt8, Op.bytesLess x x = false
  | [] => rfl
  | a :: x => by simp [Op.bytesLess, bl_irrefl x]
theorem bl_trans : ∀ x y z : List UInt8, Op.bytesLess x y = true → Op.bytesLess y z = true → Op.bytesLess x z = true
  | _, [], [], _, h2 => by simp [Op.bytesLess] at h2
  | _, _ :: _, [], _, h2 => by simp [Op.bytesLess] at h2
  | [], _, _ :: _, _, _ => by simp [Op.bytesLess]
  | _ :: _, [], _ :: _, h1, _ => by simp [Op.bytesLess] at h1
  | a :: x, b :: y, c :: z, h1, h2 => by
    simp only [Op.bytesLess, Bool.or_eq_true, decide_eq_true_eq, Bool.and_eq_true, beq_iff_eq] at h1 h2 ⊢
    rcases h1 with h1 | ⟨rfl, h1⟩ <;> rcases h2 with h2 | ⟨rfl, h2⟩
    · exact .inl (UInt8.lt_trans h1 h2)
    · exact .inl h1
    · exact .inl h2
    · exact .inr ⟨rfl, bl_trans x y z h1 h2⟩
theorem bl_total : ∀ x y : List UInt8, Op.bytesLess x y = false → Op.bytesLess y x = false → x = y
  | [], [], _, _ => rfl
  | [], _ :: _, h, _ => by simp [Op.bytesLess] at h
  | _ :: _, [], _, h => by simp [Op.bytesLess] at h
  | a :: x, b :: y, h1, h2 => by
    simp only [Op.bytesLess, Bool.or_eq_false_iff, decide_eq_false_iff_not, Bool.and_eq_false_iff, beq_eq_false_iff_ne] at h1 h2
    have e : a = b := UInt8.le_antisymm (UInt8.not_lt.1 h2.1) (UInt8.not_lt.1 h1.1)
    subst e
    rw [bl_total x y (by simpa using h1.2) (by simpa using h2.2)]
theorem bl_cmp : ∀ x y : List UInt8, Lib.compareBytes x y = if Op.bytesLess x y = true then -1 else if Op.bytesLess y x = true then 1 else 0
  | [], [] => rfl
  | [], _ :: _ => rfl
  | _ :: _, [] => rfl
  | a :: x, b :: y => by
    unfold Lib.compareBytes
    simp only [Op.bytesLess, Bool.or_eq_true, decide_eq_true_eq, Bool.and_eq_true, beq_iff_eq]
    by_cases h1 : a < b
    · simp [h1]
    · by_cases h2 : b < a
      · have : a ≠ b := fun e => by subst e; exact UInt8.lt_irrefl _ h2
        simp [h1, h2, this]
      · have e : a = b := UInt8.le_antisymm (UInt8.not_lt.1 h2) (UInt8.not_lt.1 h1)
        subst e
        simp [h1, bl_cmp x y]
theorem toList_inj {a b : ByteArray} (h : a.toList = b.toList) : a = b := by
  rw [Lib.toList_data, Lib.toList_data] at h
  exact ByteArray.ext (Array.toList_inj.1 h)
theorem toList_iff {a b : ByteArray} : a.toList = b.toList ↔ a = b := ⟨toList_inj, fun h => by rw [h]⟩

/-- a is less than b -/
def kl (a b : ByteArray) : Bool := Op.bytesLess a.toList b.toList
theorem kl_irrefl (a : ByteArray) : kl a a = false := bl_irrefl _
theorem kl_trans {a b c : ByteArray} (h : kl a b = true) (k : kl b c = true) : kl a c = true := bl_trans _ _ _ h k
theorem kl_total {a b : ByteArray} (h : kl a b = false) (k : kl b a = false) : a = b := toList_inj (bl_total _ _ h k)
theorem kl_asymm {a b : ByteArray} (h : kl a b = true) : kl b a = false := by
  cases e : kl b a with
  | false => rfl
  | true => have := kl_trans h e; rw [kl_irrefl] at this; cases this
theorem kl_ne {a b : ByteArray} (h : kl a b = true) : a ≠ b := fun e => by subst e; rw [kl_irrefl] at h; cases h
theorem cmpB_kl (a b : ByteArray) : cmpB a b = if kl a b = true then -1 else if kl b a = true then 1 else 0 := by
  unfold cmpB kl
  rw [bl_cmp, Lib.toList_data, Lib.toList_data]
theorem eqK_iff {key : ByteArray} {p : Pair} : eqK key p = true ↔ p.key = key := by
  unfold eqK
  rw [beq_iff_eq, toList_iff]
theorem gtK_kl {key : ByteArray} {p : Pair} : gtK key p = kl key p.key := by
  unfold gtK
  cases h1 : Op.bytesLess p.key.toList key.toList with
  | true => rw [kl_asymm (a := p.key) h1]; rfl
  | false =>
    by_cases e : p.key = key
    · subst e; rw [kl_irrefl]; simp
    · have e' : (p.key.toList == key.toList) = false := by rw [beq_eq_false_iff_ne]; exact fun h => e (toList_inj h)
      rw [e']
      cases h2 : kl key p.key with
      | true => rfl
      | false => exact absurd (kl_total (a := p.key) h1 h2) e

/-- do the keys rise? -/
def mayB : List Pair → Bool
  | [] => true
  | [_] => true
  | p :: q :: r => kl p.key q.key && mayB (q :: r)
theorem mayB_iff : ∀ l : List Pair, mayB l = true ↔ ∀ i, (h : i + 1 < l.length) → kl (l[i]'(by omega)).key l[i + 1].key = true
  | [] => by simp [mayB]
  | [_] => by simp [mayB]
  | p :: q :: r => by
    rw [mayB, Bool.and_eq_true, mayB_iff (q :: r)]
    constructor
    · rintro ⟨h0, h1⟩ i h
      match i with
      | 0 => exact h0
      | i + 1 => exact h1 i (by simpa using h)
    · intro h
      exact ⟨h 0 (by simp), fun i hi => h (i + 1) (by simpa using hi)⟩
theorem mayB_pair : ∀ l : List Pair, mayB l = true ↔ l.Pairwise (fun p q => kl p.key q.key = true)
  | [] => by simp [mayB]
  | [_] => by simp [mayB]
  | p :: q :: r => by
    rw [mayB, Bool.and_eq_true, mayB_pair (q :: r), List.pairwise_cons (l := q :: r)]
    constructor
    · rintro ⟨h0, h1⟩
      refine ⟨fun x hx => ?_, h1⟩
      rcases List.mem_cons.1 hx with rfl | hx
      · exact h0
      · exact kl_trans h0 ((List.pairwise_cons.1 h1).1 x hx)
    · rintro ⟨h0, h1⟩
      exact ⟨h0 q (by simp), h1⟩
theorem mayB_drop {l : List Pair} {key : ByteArray} (h : mayB l = true) : mayB (dropK key l) = true := by
  rw [mayB_pair] at *
  exact h.filter _
theorem findIdx_none {α : Type} {p : α → Bool} {l : List α} (h : ¬ l.findIdx p < l.length) : ∀ x ∈ l, p x = false := by
  intro x hx
  cases e : p x with
  | false => rfl
  | true => exact absurd (List.findIdx_lt_length_of_exists ⟨x, hx, e⟩) h
theorem mayB_set {l : List Pair} {key val : ByteArray} (h : mayB l = true) : mayB (setP l key val) = true := by
  unfold setP
  split
  · rename_i hlt
    rw [mayB_iff] at *
    have hk : ∀ i (hi : i < l.length), ((l.modify (l.findIdx (eqK key)) fun p => ⟨p.key, val⟩)[i]'(by simpa using hi)).key = l[i].key := by
      intro i hi
      rw [List.getElem_modify]
      split <;> rfl
    intro i hi
    have hi' : i + 1 < l.length := by simpa using hi
    rw [hk i (by omega), hk (i + 1) hi']
    exact h i hi'
  · rename_i hn
    rw [mayB_pair] at *
    unfold ins
    have hne := findIdx_none hn
    have hno : ∀ x ∈ l, x.key ≠ key := fun x hx e => by have := hne x hx; rw [eqK_iff.2 e] at this; cases this
    have hsplit : (l.take (l.findIdx (gtK key)) ++ l.drop (l.findIdx (gtK key))).Pairwise (fun p q => kl p.key q.key = true) := by rw [List.take_append_drop]; exact h
    obtain ⟨p1, p2, p3⟩ := List.pairwise_append.1 hsplit
    have hlow : ∀ x ∈ l.take (l.findIdx (gtK key)), kl x.key key = true := by
      intro x hx
      obtain ⟨i, hi, rfl⟩ := List.getElem_of_mem hx
      rw [List.length_take] at hi
      rw [List.getElem_take]
      have hgt : gtK key (l[i]'(by omega)) = false := by
        have := List.not_of_lt_findIdx (p := gtK key) (xs := l) (i := i) (by omega)
        simpa using this
      rw [gtK_kl] at hgt
      cases e : kl (l[i]'(by omega)).key key with
      | true => rfl
      | false => exact absurd (kl_total e hgt) (hno _ (List.getElem_mem _))
    have hhigh : ∀ x ∈ l.drop (l.findIdx (gtK key)), kl key x.key = true := by
      intro x hx
      by_cases hlt : l.findIdx (gtK key) < l.length
      · rw [List.drop_eq_getElem_cons hlt] at hx p2
        have h0 : kl key (l[l.findIdx (gtK key)]).key = true := by rw [← gtK_kl]; exact List.findIdx_getElem
        rcases List.mem_cons.1 hx with rfl | hx
        · exact h0
        · exact kl_trans h0 ((List.pairwise_cons.1 p2).1 x hx)
      · rw [List.drop_eq_nil_of_le (by omega)] at hx
        cases hx
    refine List.pairwise_append.2 ⟨p1, List.pairwise_cons.2 ⟨hhigh, p2⟩, fun x hx y hy => ?_⟩
    rcases List.mem_cons.1 hy with rfl | hy
    · exact hlow x hx
    · exact p3 x hx y hy

/-! ### what is got -/
theorem getD'_none {l : List Pair} {key : ByteArray} (h : ∀ x ∈ l, x.key ≠ key) : getD' l key = (ByteArray.empty, false) := by
  unfold getD'
  rw [List.find?_eq_none.2 fun x hx => by rw [eqK_iff]; exact h x hx]
theorem getD'_hasK (l : List Pair) (key : ByteArray) : (getD' l key).2 = hasK l key := by
  unfold getD' hasK
  cases h : l.find? (eqK key) with
  | none =>
    rw [List.find?_eq_none] at h
    symm
    rw [decide_eq_false_iff_not]
    intro hlt
    exact h _ (List.getElem_mem hlt) List.findIdx_getElem
  | some p =>
    symm
    rw [decide_eq_true_iff]
    exact List.findIdx_lt_length_of_exists ⟨p, List.mem_of_find?_eq_some h, List.find?_some h⟩
theorem find_append {q : Pair → Bool} (a b : List Pair) : (a ++ b).find? q = ((a.find? q).or (b.find? q)) := List.find?_append
theorem getD'_cons (p : Pair) (l : List Pair) (key : ByteArray) : getD' (p :: l) key = if p.key = key then (p.val, true) else getD' l key := by
  unfold getD'
  rw [List.find?_cons]
  by_cases h : p.key = key
  · rw [if_pos h, eqK_iff.2 h]
  · rw [if_neg h]
    have : eqK key p = false := by rw [Bool.eq_false_iff]; exact fun e => h (eqK_iff.1 e)
    rw [this]
theorem getD'_append (a b : List Pair) (key : ByteArray) : getD' (a ++ b) key = if ∃ x ∈ a, x.key = key then getD' a key else getD' b key := by
  induction a with
  | nil => simp
  | cons p a ih =>
    rw [List.cons_append, getD'_cons, getD'_cons, ih]
    by_cases h : p.key = key
    · simp [h]
    · simp [h]
theorem getD'_drop_same (l : List Pair) (key : ByteArray) : getD' (dropK key l) key = (ByteArray.empty, false) :=
  getD'_none fun x hx e => by
    have := (List.mem_filter.1 hx).2
    rw [eqK_iff.2 e] at this
    cases this
theorem getD'_drop_other {l : List Pair} {key o : ByteArray} (h : o ≠ key) : getD' (dropK key l) o = getD' l o := by
  induction l with
  | nil => rfl
  | cons p l ih =>
    unfold dropK at *
    rw [List.filter_cons]
    split
    · rw [getD'_cons, getD'_cons, ih]
    · rename_i hp
      have hp' : p.key = key := by simpa [eqK_iff] using hp
      rw [getD'_cons, if_neg (by rw [hp']; exact Ne.symm h), ih]
theorem getD'_modify {l : List Pair} {key val : ByteArray} (h : l.findIdx (eqK key) < l.length) (o : ByteArray) :
    getD' (l.modify (l.findIdx (eqK key)) fun p => ⟨p.key, val⟩) o = if o = key then (val, true) else getD' l o := by
  induction l with
  | nil => simp at h
  | cons p l ih =>
    by_cases hp : p.key = key
    · have e : (p :: l).findIdx (eqK key) = 0 := by rw [List.findIdx_cons, eqK_iff.2 hp]; rfl
      rw [e, List.modify_zero_cons, getD'_cons, getD'_cons]
      by_cases ho : o = key
      · subst ho; simp [hp]
      · have : ¬ p.key = o := fun e => ho (by rw [← e, hp])
        simp [ho, this]
    · have hq : eqK key p = false := by rw [Bool.eq_false_iff]; exact fun e => hp (eqK_iff.1 e)
      have e : (p :: l).findIdx (eqK key) = l.findIdx (eqK key) + 1 := by rw [List.findIdx_cons, hq]; rfl
      rw [e] at h ⊢
      rw [List.modify_succ_cons, getD'_cons, getD'_cons, ih (by simpa using h)]
      by_cases hpo : p.key = o
      · have ho : ¬ o = key := fun e => hp (by rw [hpo, e])
        simp [hpo, ho]
      · simp [hpo]
theorem getD'_set (l : List Pair) (key val o : ByteArray) : getD' (setP l key val) o = if o = key then (val, true) else getD' l o := by
  unfold setP
  split
  · exact getD'_modify ‹_› o
  · rename_i hn
    have hne := findIdx_none hn
    have hno : ∀ x ∈ l, x.key ≠ key := fun x hx e => by have := hne x hx; rw [eqK_iff.2 e] at this; cases this
    unfold ins
    rw [getD'_append, getD'_cons]
    by_cases ho : o = key
    · subst ho
      rw [if_neg (fun ⟨x, hx, e⟩ => hno x (List.mem_of_mem_take hx) e), if_pos rfl, if_pos rfl]
    · rw [if_neg (Ne.symm ho), if_neg ho]
      have := getD'_append (l.take (l.findIdx (gtK key))) (l.drop (l.findIdx (gtK key))) o
      rw [List.take_append_drop] at this
      exact this.symm
theorem setP_len (l : List Pair) (key val : ByteArray) : (setP l key val).length ≤ l.length + 1 := by
  unfold setP
  split
  · simp
  · rw [ins_length _ _ _ (List.findIdx_le_length)]; omega
theorem dropK_le (l : List Pair) (key : ByteArray) : (dropK key l).length ≤ l.length := List.length_filter_le _ _
end Go.Proofs.YtamcehfcjcmpmaaDoor
