/- Links in the order of their keys: where a key stands, what setting and dropping make of a list, and of the levels. Plain facts; no program is named. -/
import Derived.Test.YthadifbbepcdiaaOSum
namespace Go.Proofs.Ythadifbbepcdiaa
open Go.RowKit

structure Link where
  key : ByteArray
  id : Int
  ver : Int
  line : Int
  cls : Int
  deriving DecidableEq
def Link.enc (x : Link) : List Value := [.string x.key, .int .u64 x.id, .int .u64 x.ver, .int .i64 x.line, .int .i64 x.cls]
theorem Link.enc_len (x : Link) : x.enc.length = 5 := rfl
theorem Link.enc_one (x : Link) : ∀ u ∈ x.enc, u.oneCell' = true := by intro u hu; simp [Link.enc] at hu; rcases hu with rfl | rfl | rfl | rfl | rfl <;> rfl
def link0 : Link := ⟨ByteArray.empty, 0, 0, 0, 0⟩

/-- by rising keys -/
def Rise (l : List Link) : Prop := l.Pairwise (fun x y => kl x.key y.key = true)
def posL (l : List Link) (key : ByteArray) : Nat := l.findIdx (fun x => !kl x.key key)
def hasL (l : List Link) (key : ByteArray) : Bool := l.any fun x => decide (x.key = key)
def setL (l : List Link) (x : Link) : List Link := l.filter (fun y => kl y.key x.key) ++ x :: l.filter (fun y => kl x.key y.key)
def dropL (l : List Link) (key : ByteArray) : List Link := l.filter (fun y => !decide (y.key = key))
def onLv (i : Nat) (y : Link) : Bool := decide (i < lvlOf y.key)
/-- what is on level i (from 0 on) -/
def atLv (l : List Link) (i : Nat) : List Link := l.filter (onLv i)

theorem kl_tri (a b : ByteArray) : kl a b = true ∨ a = b ∨ kl b a = true := by
  cases h : kl a b with
  | true => exact .inl rfl
  | false =>
    cases h' : kl b a with
    | true => exact .inr (.inr rfl)
    | false => exact .inr (.inl (kl_total h h'))
theorem kl_false_of_eq {a b : ByteArray} (h : a = b) : kl a b = false := by subst h; exact kl_irrefl _
/-- a list that rises, cut at a key -/
theorem rise_cut : ∀ (l : List Link) (key : ByteArray), Rise l → ∃ A m B, l = A ++ (m ++ B) ∧ (∀ a ∈ A, kl a.key key = true) ∧ (∀ b ∈ B, kl key b.key = true) ∧ (m = [] ∨ ∃ y, m = [y] ∧ y.key = key)
  | [], key, _ => ⟨[], [], [], rfl, by simp, by simp, .inl rfl⟩
  | x :: l, key, h => by
    have h1 := List.pairwise_cons.1 h
    rcases kl_tri x.key key with hx | hx | hx
    · obtain ⟨A, m, B, e, hA, hB, hm⟩ := rise_cut l key h1.2
      exact ⟨x :: A, m, B, by rw [e]; rfl, by intro a ha; rcases List.mem_cons.1 ha with rfl | ha; exact hx; exact hA a ha, hB, hm⟩
    · exact ⟨[], [x], l, rfl, by simp, fun b hb => hx ▸ h1.1 b hb, .inr ⟨x, rfl, hx⟩⟩
    · exact ⟨[], [], x :: l, rfl, by simp, by intro b hb; rcases List.mem_cons.1 hb with rfl | hb; exact hx; exact kl_trans hx (h1.1 b hb), .inl rfl⟩
section
variable {A m B : List Link} {key : ByteArray} (hA : ∀ a ∈ A, kl a.key key = true) (hB : ∀ b ∈ B, kl key b.key = true) (hm : m = [] ∨ ∃ y, m = [y] ∧ y.key = key)
include hA hB hm
theorem cut_pos : posL (A ++ (m ++ B)) key = A.length := by
  unfold posL
  rw [List.findIdx_append]
  have e : List.findIdx (fun x : Link => !kl x.key key) A = A.length := by
    rw [List.findIdx_eq_length]
    intro a ha
    simp [hA a ha]
  rw [if_neg (by omega)]
  have e2 : List.findIdx (fun x : Link => !kl x.key key) (m ++ B) = 0 := by
    rcases hm with rfl | ⟨y, rfl, hy⟩
    · cases B with
      | nil => rfl
      | cons b B => rw [List.nil_append, List.findIdx_cons, kl_asymm (hB b (by simp))]; rfl
    · rw [List.cons_append, List.findIdx_cons, kl_false_of_eq hy]; rfl
  omega
theorem cut_has : hasL (A ++ (m ++ B)) key = !m.isEmpty := by
  unfold hasL
  rw [List.any_append, List.any_append]
  have e1 : A.any (fun x => decide (x.key = key)) = false := by rw [List.any_eq_false]; intro a ha; simpa using kl_ne (hA a ha)
  have e2 : B.any (fun x => decide (x.key = key)) = false := by rw [List.any_eq_false]; intro b hb; simpa using (kl_ne (hB b hb)).symm
  rw [e1, e2]
  rcases hm with rfl | ⟨y, rfl, hy⟩ <;> simp [*]
theorem cut_less : (A ++ (m ++ B)).filter (fun y => kl y.key key) = A := by
  rw [List.filter_append, List.filter_append]
  have e1 : A.filter (fun y => kl y.key key) = A := by rw [List.filter_eq_self]; exact hA
  have e2 : B.filter (fun y => kl y.key key) = [] := by rw [List.filter_eq_nil_iff]; intro b hb; simp [kl_asymm (hB b hb)]
  rw [e1, e2]
  rcases hm with rfl | ⟨y, rfl, hy⟩
  · simp
  · simp [kl_false_of_eq hy]
theorem cut_more : (A ++ (m ++ B)).filter (fun y => kl key y.key) = B := by
  rw [List.filter_append, List.filter_append]
  have e1 : A.filter (fun y => kl key y.key) = [] := by rw [List.filter_eq_nil_iff]; intro b hb; simp [kl_asymm (hA b hb)]
  have e2 : B.filter (fun y => kl key y.key) = B := by rw [List.filter_eq_self]; exact hB
  rw [e1, e2]
  rcases hm with rfl | ⟨y, rfl, hy⟩
  · simp
  · simp [kl_false_of_eq hy.symm]
theorem cut_drop : dropL (A ++ (m ++ B)) key = A ++ B := by
  unfold dropL
  rw [List.filter_append, List.filter_append]
  have e1 : A.filter (fun y => !decide (y.key = key)) = A := by rw [List.filter_eq_self]; intro a ha; simpa using kl_ne (hA a ha)
  have e2 : B.filter (fun y => !decide (y.key = key)) = B := by rw [List.filter_eq_self]; intro b hb; simpa using (kl_ne (hB b hb)).symm
  rw [e1, e2]
  rcases hm with rfl | ⟨y, rfl, hy⟩ <;> simp [*]
theorem cut_set {x : Link} (hx : x.key = key) : setL (A ++ (m ++ B)) x = A ++ x :: B := by
  subst hx
  rw [setL, cut_less hA hB hm, cut_more hA hB hm]
end
theorem setL_has {l : List Link} {x : Link} (h : Rise l) (hh : hasL l x.key = true) : posL l x.key < l.length ∧ setL l x = l.set (posL l x.key) x := by
  obtain ⟨A, m, B, rfl, hA, hB, hm⟩ := rise_cut l x.key h
  rw [cut_has hA hB hm] at hh
  rw [cut_pos hA hB hm, cut_set hA hB hm rfl]
  rcases hm with rfl | ⟨y, rfl, hy⟩
  · simp at hh
  · simp
theorem setL_new {l : List Link} {x : Link} (h : Rise l) (hh : hasL l x.key = false) : posL l x.key ≤ l.length ∧ setL l x = ins l (posL l x.key) x := by
  obtain ⟨A, m, B, rfl, hA, hB, hm⟩ := rise_cut l x.key h
  rw [cut_has hA hB hm] at hh
  rw [cut_pos hA hB hm, cut_set hA hB hm rfl]
  rcases hm with rfl | ⟨y, rfl, hy⟩
  · simp [ins]
  · simp at hh
theorem dropL_has {l : List Link} {key : ByteArray} (h : Rise l) (hh : hasL l key = true) : posL l key < l.length ∧ dropL l key = l.take (posL l key) ++ l.drop (posL l key + 1) := by
  obtain ⟨A, m, B, rfl, hA, hB, hm⟩ := rise_cut l key h
  rw [cut_has hA hB hm] at hh
  rw [cut_pos hA hB hm, cut_drop hA hB hm]
  rcases hm with rfl | ⟨y, rfl, hy⟩
  · simp at hh
  · simp
theorem dropL_none {l : List Link} {key : ByteArray} (hh : hasL l key = false) : dropL l key = l := by
  unfold dropL
  rw [List.filter_eq_self]
  intro a ha
  rw [hasL, List.any_eq_false] at hh
  simpa using hh a ha
theorem rise_set {l : List Link} (h : Rise l) (x : Link) : Rise (setL l x) := by
  obtain ⟨A, m, B, rfl, hA, hB, hm⟩ := rise_cut l x.key h
  rw [cut_set hA hB hm rfl]
  unfold Rise at h ⊢
  rw [List.pairwise_append] at h ⊢
  refine ⟨h.1, ?_, ?_⟩
  · rw [List.pairwise_cons]
    exact ⟨fun b hb => hB b hb, (List.pairwise_append.1 h.2.1).2.1⟩
  · intro a ha b hb
    rcases List.mem_cons.1 hb with rfl | hb
    · exact hA a ha
    · exact h.2.2 a ha b (by simp [hb])
theorem rise_filter {l : List Link} (h : Rise l) (p : Link → Bool) : Rise (l.filter p) := List.Pairwise.filter p h
theorem rise_drop {l : List Link} (h : Rise l) (key : ByteArray) : Rise (dropL l key) := rise_filter h _
theorem rise_lv {l : List Link} (h : Rise l) (i : Nat) : Rise (atLv l i) := rise_filter h _
theorem onLv_key {x y : Link} (h : x.key = y.key) (i : Nat) : onLv i x = onLv i y := by unfold onLv; rw [h]
theorem lv_set {l : List Link} (h : Rise l) (x : Link) (i : Nat) : atLv (setL l x) i = if i < lvlOf x.key then setL (atLv l i) x else atLv l i := by
  obtain ⟨A, m, B, rfl, hA, hB, hm⟩ := rise_cut l x.key h
  rw [cut_set hA hB hm rfl]
  unfold atLv
  have e : (A ++ (m ++ B)).filter (onLv i) = A.filter (onLv i) ++ (m.filter (onLv i) ++ B.filter (onLv i)) := by simp
  rw [e, List.filter_append, List.filter_cons]
  split
  · rename_i hi
    rw [if_pos (by simpa [onLv] using hi), cut_set (key := x.key) (fun a ha => hA a (List.mem_filter.1 ha).1) (fun b hb => hB b (List.mem_filter.1 hb).1) ?_ rfl]
    rcases hm with rfl | ⟨y, rfl, hy⟩
    · simp
    · right
      exact ⟨y, by rw [List.filter_cons, if_pos (by simpa [onLv, hy] using hi)]; rfl, hy⟩
  · rename_i hi
    rw [if_neg (by simpa [onLv] using hi)]
    rcases hm with rfl | ⟨y, rfl, hy⟩
    · simp
    · rw [List.filter_cons, if_neg (by simpa [onLv, hy] using hi)]; simp
theorem lv_drop (l : List Link) (key : ByteArray) (i : Nat) : atLv (dropL l key) i = dropL (atLv l i) key := by
  unfold atLv dropL
  rw [List.filter_filter, List.filter_filter]
  congr 1
  funext y
  rw [Bool.and_comm]
theorem lv_drop_none {l : List Link} {key : ByteArray} {i : Nat} (hi : ¬ i < lvlOf key) : atLv (dropL l key) i = atLv l i := by
  rw [lv_drop]
  refine dropL_none ?_
  rw [hasL, List.any_eq_false]
  intro x hx
  have := (List.mem_filter.1 hx).2
  simp [onLv] at this
  simp
  rintro rfl
  exact hi this
theorem lv_zero (l : List Link) : atLv l 0 = l := by
  unfold atLv
  rw [List.filter_eq_self]
  intro x _
  have := (lvlOf_pos x.key).1
  simp [onLv]; omega
theorem has_lv {l : List Link} {key : ByteArray} {i : Nat} (hi : i < lvlOf key) : hasL (atLv l i) key = hasL l key := by
  unfold hasL atLv
  rw [List.any_filter]
  congr 1
  funext x
  by_cases e : x.key = key
  · simp [e, onLv, hi]
  · simp [e]
theorem setL_len (l : List Link) (x : Link) : (setL l x).length ≤ l.length + 1 := by
  unfold setL
  rw [List.length_append, List.length_cons]
  have : ∀ l : List Link, (l.filter (fun y => kl y.key x.key)).length + (l.filter (fun y => kl x.key y.key)).length ≤ l.length := by
    intro l
    induction l with
    | nil => simp
    | cons a l ih =>
      rw [List.filter_cons, List.filter_cons]
      cases h1 : kl a.key x.key with
      | true => rw [kl_asymm h1]; simp; omega
      | false =>
        cases h2 : kl x.key a.key with
        | true => simp; omega
        | false => simp; omega
  have := this l
  omega
theorem dropL_len (l : List Link) (key : ByteArray) : (dropL l key).length ≤ l.length := List.length_filter_le _ _
theorem lv_len (l : List Link) (i : Nat) : (atLv l i).length ≤ l.length := List.length_filter_le _ _
theorem mem_set {l : List Link} {x y : Link} (h : y ∈ setL l x) : y = x ∨ y ∈ l := by
  unfold setL at h
  rw [List.mem_append, List.mem_cons] at h
  rcases h with h | h | h
  · exact .inr (List.mem_filter.1 h).1
  · exact .inl h
  · exact .inr (List.mem_filter.1 h).1
theorem mem_drop {l : List Link} {key : ByteArray} {y : Link} (h : y ∈ dropL l key) : y ∈ l := (List.mem_filter.1 h).1
end Go.Proofs.Ythadifbbepcdiaa
