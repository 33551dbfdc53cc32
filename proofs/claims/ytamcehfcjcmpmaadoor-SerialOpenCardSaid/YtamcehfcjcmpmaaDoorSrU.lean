/- What the laws Stale, Open and Many ask: which pairs and rows of stories are as if one by one. Plain facts; no program is walked. -/
import Derived.Test.YtamcehfcjcmpmaaDoorAwk
namespace Go.Proofs.YtamcehfcjcmpmaaDoor
open Go.RowKit

theorem hasK_get (l : List Pair) (key : ByteArray) : hasK l key = (getD' l key).2 := (getD'_hasK l key).symm
theorem getD'_nil (key : ByteArray) : getD' [] key = (ByteArray.empty, false) := getD'_none (by simp)
theorem counts_flat {k : Int} {key val vl : ByteArray} {fd : Bool} {bg en : Int} (hk : kindB k = true) : countsB (flatI k key val 0 fd vl bg en).s = true := by
  show (kindB k && (decide (en < 0) || decide ((0 : Int) = 0))) = true
  rw [hk]
  simp
theorem befB_no {k k' : Int} {key val vl key' val' vl' : ByteArray} {code code' : Int} {fd fd' : Bool} {bg en bg' en' : Int} (h : en < 0 ∨ bg' ≤ en) : befB (flatI k key val code fd vl bg en).s (flatI k' key' val' code' fd' vl' bg' en').s = false := by
  show (decide (0 ≤ en) && decide (en < bg')) = false
  rcases h with h | h
  · rw [decide_eq_false (by omega), Bool.false_and]
  · rw [decide_eq_false (p := en < bg') (by omega), Bool.and_false]
theorem befB_yes {k k' : Int} {key val vl key' val' vl' : ByteArray} {code code' : Int} {fd fd' : Bool} {bg en bg' en' : Int} (h : 0 ≤ en) (h' : en < bg') : befB (flatI k key val code fd vl bg en).s (flatI k' key' val' code' fd' vl' bg' en').s = true := by
  show (decide (0 ≤ en) && decide (en < bg')) = true
  rw [decide_eq_true h, decide_eq_true h']
  rfl
theorem beq_comm' (a b : Bool) : (a == b) = (b == a) := by cases a <;> cases b <;> rfl
theorem stale_law (key val told : ByteArray) (fd : Bool) (g : Int) (h0 : key.toList.isEmpty = false) (h1 : key.size ≤ 16) (h2 : val.size ≤ 400) (hg : 3 ≤ g) :
    LegalS [flatI 2 key val 0 false ByteArray.empty 1 2, flatI 1 key ByteArray.empty 0 fd told g 200] ⟨[], []⟩ ↔ (fd && told.toList == val.toList) = true := by
  rw [legal_two (counts_flat rfl) (counts_flat rfl) (by show (0 : Int) ≤ 2; decide) (by show (0 : Int) ≤ 200; decide), befB_no (.inr (by omega)), befB_yes (by omega) (by omega), put_next h0 h1 h2, put_ok h0 h1 h2 (by omega), get_ok h0 h1 (by omega), getD'_set, if_pos rfl, hasK_get, getD'_nil]
  simp
/-- a store of one pair -/
theorem open_get (key val was told : ByteArray) (h0 : key.toList.isEmpty = false) (h1 : key.size ≤ 16) (h2 : val.size ≤ 400) :
    LegalS [flatI 2 key val 0 false ByteArray.empty 1 (-1), flatI 1 key ByteArray.empty 0 true told 3 4] ⟨[⟨key, was⟩], []⟩ ↔ told = was ∨ told = val := by
  rw [legal_open (counts_flat rfl) (counts_flat rfl) (by show (-1 : Int) < 0; decide) (by show (0 : Int) ≤ 4; decide), befB_no (.inl (by omega)), befB_no (.inr (by omega)), put_next h0 h1 h2, get_ok h0 h1 (by omega), get_ok h0 h1 (by omega), open_ok (k := 2) (by omega), getD'_set, if_pos rfl, getD'_cons, if_pos rfl]
  simp [toList_iff]
/-- a list of puts; those from the n-th on have failed -/
def manyI (n i : Nat) : Item := if i < n then flatI 2 ⟨#[97]⟩ ByteArray.empty 0 (decide (0 < i)) ByteArray.empty (2 * i : Nat) (2 * i + 1 : Nat) else flatI 2 ⟨#[97]⟩ ByteArray.empty 4 false ByteArray.empty (2 * i : Nat) (2 * i + 1 : Nat)
def manyL (n m : Nat) : List Item := (List.range m).map (manyI n)
theorem manyI_flat (n i : Nat) : ∃ k key val code fd vl bg en, manyI n i = flatI k key val code fd vl bg en := by
  unfold manyI
  split
  · exact ⟨_, _, _, _, _, _, _, _, rfl⟩
  · exact ⟨_, _, _, _, _, _, _, _, rfl⟩
theorem manyI_bg (n i : Nat) : (manyI n i).s.bg = (2 * i : Nat) := by unfold manyI; split <;> rfl
theorem manyI_en (n i : Nat) : (manyI n i).s.en = (2 * i + 1 : Nat) := by unfold manyI; split <;> rfl
theorem manyI_counts (n i : Nat) : countsB (manyI n i).s = decide (i < n) := by
  unfold manyI
  split
  · rename_i h
    rw [counts_flat rfl, decide_eq_true h]
  · rename_i h
    rw [decide_eq_false h]
    show (kindB 2 && (decide (((2 * i + 1 : Nat) : Int) < 0) || decide ((4 : Int) = 0))) = false
    rw [decide_eq_false (by omega)]
    decide
theorem manyL_len (n m : Nat) : (manyL n m).length = m := by simp [manyL]
theorem manyL_succ (n m : Nat) : manyL n (m + 1) = manyL n m ++ [manyI n m] := by simp [manyL, List.range_succ]
theorem manyL_may (n m : Nat) : MayS (stories (manyL n m)) := fun i hi _ => by
  have hl : (stories (manyL n m)).length = m := by simp [stories, manyL]
  have hg : ∀ j (h : j < (stories (manyL n m)).length), (stories (manyL n m))[j] = (manyI n j).s := fun j h => by simp [stories, manyL]
  have h1 : (stories (manyL n m))[i].bg = (2 * i : Nat) := by rw [hg, manyI_bg]
  have h2 : (stories (manyL n m))[i].en = (2 * i + 1 : Nat) := by rw [hg, manyI_en]
  refine ⟨by rw [h1]; omega, fun j hj => ?_, .inr (by rw [h1, h2]; omega)⟩
  rw [h1, hg j (by omega), manyI_bg]
  omega
theorem manyL_picks (n : Nat) : ∀ k, picks (manyL n (n + k)) = (List.range n).map (manyI n)
  | 0 => by
    unfold picks manyL
    rw [Nat.add_zero]
    refine List.filter_eq_self.2 fun x hx => ?_
    obtain ⟨i, hi, rfl⟩ := List.mem_map.1 hx
    rw [manyI_counts]
    simpa using hi
  | k + 1 => by
    have h := manyL_picks n k
    unfold picks at h ⊢
    rw [← Nat.add_assoc, manyL_succ, List.filter_append, h, List.filter_cons_of_neg (by rw [manyI_counts]; simp)]
    simp
theorem many_next {n i : Nat} (h : i < n) (S : Shelf) : (manyI n i).next S = ⟨setP S.pairs ⟨#[97]⟩ ByteArray.empty, S.queue⟩ := by
  unfold manyI
  rw [if_pos h, put_next (by decide +kernel) (by decide +kernel) (by decide +kernel)]
theorem many_law (n k : Nat) : LegalS (manyL n (n + k)) ⟨[], []⟩ := by
  intro must hm
  rw [manyL_picks] at hm ⊢
  have hl : ((List.range n).map (manyI n)).length = n := by simp
  have hg : ∀ j (h : j < ((List.range n).map (manyI n)).length), ((List.range n).map (manyI n))[j] = manyI n j := fun j h => by simp
  have hrun : ∀ j, j ≤ n → hasK (runTo ((List.range n).map (manyI n)) ⟨[], []⟩ j).pairs ⟨#[97]⟩ = decide (0 < j) := by
    intro j
    induction j with
    | zero => intro _; exact (by decide +kernel : hasK [] (⟨#[97]⟩ : ByteArray) = decide (0 < 0))
    | succ j ih =>
      intro hj
      rw [runTo_succ (by rw [hl]; omega), hg j (by rw [hl]; omega), many_next (by omega), hasK_get, getD'_set, if_pos rfl]
      simp
  refine leads_inorder (must_mbit hm) (fun i j hi hj hij => ?_) fun i hi => ?_
  · rw [hg, hg]
    have h1 := manyI_en n j
    have h2 := manyI_bg n i
    unfold befB
    rw [h1, h2, decide_eq_false (p := ((2 * j + 1 : Nat) : Int) < _) (by omega), Bool.and_false]
  · have hi' : i < n := by rw [hl] at hi; exact hi
    rw [hg, show manyI n i = flatI 2 ⟨#[97]⟩ ByteArray.empty 0 (decide (0 < i)) ByteArray.empty (2 * i : Nat) (2 * i + 1 : Nat) from if_pos hi', put_ok (by decide +kernel) (by decide +kernel) (by decide +kernel) (by omega), hrun i (by omega)]
    simp
end Go.Proofs.YtamcehfcjcmpmaaDoor
