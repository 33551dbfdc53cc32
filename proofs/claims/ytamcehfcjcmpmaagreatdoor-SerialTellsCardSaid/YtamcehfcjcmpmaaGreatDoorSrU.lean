/- What the laws Stale, Open and Many ask: which pairs and rows of stories are as if one by one. Plain facts; no program is walked. -/
import Derived.Test.YtamcehfcjcmpmaaGreatDoorRows
import Derived.Test.YtamcehfcjcmpmaaGreatDoorMem
import Derived.Deep.QuietTactic
import Derived.BigQuiet
import Derived.Test.YtamcehfcjcmpmaaGreatDoorSrT
/- What every program answers that is one (chapter 25). -/
namespace Go.Proofs.YtamcehfcjcmpmaaGreatDoor
open Go.RowKit

theorem put25 (k v : ByteArray) (w : World) : Calls Tryz.prog 16 #[.string k, .string v] w fun e w' => e = .returned (.agg #[.int .i64 2, .string k, .string v, .string ByteArray.empty, .slice none 0 0]) ∧ Below w.heap.size w w' := by
  go_enter Tryz.func16, Tryz.ntmps16
  go_wp2
  refine bodyPost_ret (v := .agg #[.int .i64 2, .string k, .string v, .string ByteArray.empty, .slice none 0 0]) (by simp [results, Tryz.results16, go_sem]; rfl) rfl ⟨rfl, ?_⟩
  exact (by repeat (first | exact Below.refl _ _ | assumption | refine Below.drew ?_ | refine below_drewN ?_ _ | refine Below.alloc ?_ (by first | omega | (simp; done) | (simp; omega)) _ | refine Below.setCell ?_ (by first | omega | (simp; done) | (simp; omega)) _))
theorem get25 (k : ByteArray) (w : World) : Calls Tryz.prog 17 #[.string k] w fun e w' => e = .returned (.agg #[.int .i64 1, .string k, .string ByteArray.empty, .string ByteArray.empty, .slice none 0 0]) ∧ Below w.heap.size w w' := by
  go_enter Tryz.func17, Tryz.ntmps17
  go_wp2
  refine bodyPost_ret (v := .agg #[.int .i64 1, .string k, .string ByteArray.empty, .string ByteArray.empty, .slice none 0 0]) (by simp [results, Tryz.results17, go_sem]; rfl) rfl ⟨rfl, ?_⟩
  exact (by repeat (first | exact Below.refl _ _ | assumption | refine Below.drew ?_ | refine below_drewN ?_ _ | refine Below.alloc ?_ (by first | omega | (simp; done) | (simp; omega)) _ | refine Below.setCell ?_ (by first | omega | (simp; done) | (simp; omega)) _))
theorem may_two {x y : Story} (h1 : 0 ≤ x.bg) (h2 : x.bg < y.bg) (h3 : x.en = -1 ∨ x.bg < x.en) (h4 : y.en = -1 ∨ y.bg < y.en) : MayS [x, y] := fun i hi _ => by
  match i, hi with
  | 0, _ => exact ⟨h1, fun j h => absurd h (by omega), h3⟩
  | 1, _ => exact ⟨by show 0 ≤ y.bg; omega, fun j h => by
      obtain rfl : j = 0 := by omega
      exact h2, h4⟩
  | i + 2, hi => exact absurd hi (by simp)
/-- Legal of stories that may be, few of them -/
def GivesB2 (r : Bool) (w : World) (e : Ending) (w' : World) : Prop := e = .returned (.tuple #[.bool r, .int .i64 0]) ∧ Below w.heap.size w w'
theorem GivesLegal.yes {xs : List Item} {S : Shelf} {w w' : World} {e : Ending} (h : GivesLegal xs S w e w') (h1 : mayB S.pairs = true) (h2 : MayS (stories xs)) (h3 : (picks xs).length ≤ 12) (h4 : LegalS xs S) : GivesB2 true w e w' := by
  obtain ⟨hb, r, code, rfl, -, -, hc⟩ := h
  obtain ⟨rfl, h5⟩ := hc ⟨h1, h2⟩ h3
  rw [h5.2 h4]
  exact ⟨rfl, hb⟩
theorem GivesLegal.not {xs : List Item} {S : Shelf} {w w' : World} {e : Ending} (h : GivesLegal xs S w e w') (h1 : mayB S.pairs = true) (h2 : MayS (stories xs)) (h3 : (picks xs).length ≤ 12) (h4 : ¬ LegalS xs S) : GivesB2 false w e w' := by
  obtain ⟨hb, r, code, rfl, -, -, hc⟩ := h
  obtain ⟨rfl, h5⟩ := hc ⟨h1, h2⟩ h3
  cases r with
  | true => exact absurd (h5.1 rfl) h4
  | false => exact ⟨rfl, hb⟩
theorem story_cells {w : World} {b : Nat} {l : List Story} {cs : Array Value} (h : w.heap[b]? = some (.cells cs 52 (0, 0))) (hcs : cs.toList = l.flatMap Story.enc) : Arr Story.enc 14 w w.heap.size (some ⟨b, 0, none⟩) l :=
  Arr.of_cells Story.enc_len (lt_of_heap h) fun j u hu => by
    rw [Nat.zero_add, cell_of_row w b j _ _ _ h, ← Array.getElem?_toList, hcs]
    exact hu
theorem flat2 {x y : Item} (hx : ∃ k key val code fd vl bg en, x = flatI k key val code fd vl bg en) (hy : ∃ k key val code fd vl bg en, y = flatI k key val code fd vl bg en) : ∀ z ∈ [x, y], ∃ k key val code fd vl bg en, z = flatI k key val code fd vl bg en := by
  intro z hz
  simp only [List.mem_cons, List.not_mem_nil, or_false] at hz
  rcases hz with rfl | rfl
  · exact hx
  · exact hy
theorem small_nil : Small ⟨[], []⟩ 0 := ⟨by simp, by simp, by simp, by simp⟩
theorem shIn_nil (w : World) (B : Nat) : ShIn w B none 0 none 0 ⟨[], []⟩ := ⟨Arr.nil, by simp, by simp, Arr.nil, by simp, by simp⟩
theorem legal_pair {x y : Item} (hx : ∃ k key val code fd vl bg en, x = flatI k key val code fd vl bg en) (hy : ∃ k key val code fd vl bg en, y = flatI k key val code fd vl bg en) (W : World) (b : Nat) {cs : Array Value} (h : W.heap[b]? = some (.cells cs 52 (0, 0))) (hcs : cs.toList = x.s.enc ++ y.s.enc)
    (S : Shelf) (PA : Option Addr) (pc : Nat) (QA : Option Addr) (qc : Nat) (hsh : ShIn W W.heap.size PA pc QA qc S) (hsm : Small S 0) (htab : Tab W.heap.size W) :
    Calls Tryz.prog 9 #[.agg #[.slice PA S.pairs.length pc, .slice QA S.queue.length qc], .slice (some ⟨b, 0, none⟩) 2 2] W (GivesLegal [x, y] S W) :=
  legal_any [x, y] (some ⟨b, 0, none⟩) 2 S PA pc QA qc W (flatI_sts (flat2 hx hy) (story_cells h (by rw [hcs]; simp [stories])) (by simp) (by decide)) (by simp) hsh hsm htab
def keyA : ByteArray := ⟨#[97]⟩
def valA : ByteArray := ⟨#[49]⟩
def itA : Item := flatI 2 ⟨#[97]⟩ ⟨#[49]⟩ 0 false ByteArray.empty 1 4
def itB : Item := flatI 1 ⟨#[97]⟩ ByteArray.empty 0 false ByteArray.empty 2 3
def itC : Item := flatI 1 ⟨#[97]⟩ ByteArray.empty 0 false ByteArray.empty 5 6
theorem set_a : setP [] ⟨#[97]⟩ ⟨#[49]⟩ = [⟨⟨#[97]⟩, ⟨#[49]⟩⟩] := by simp [setP, ins]
theorem get_a : getD' [⟨⟨#[97]⟩, ⟨#[49]⟩⟩] ⟨#[97]⟩ = (⟨#[49]⟩, true) := by decide +kernel
theorem legal_ab : LegalS [itA, itB] ⟨[], []⟩ := by
  refine (legal_two (by decide +kernel) (by decide +kernel) (by decide) (by decide)).2 (.inr ⟨by decide +kernel, ?_, ?_⟩)
  · unfold itB
    rw [get_ok (by decide +kernel) (by decide +kernel) (by decide)]
    decide +kernel
  · unfold itA itB
    rw [get_next, put_ok (by decide +kernel) (by decide +kernel) (by decide +kernel) (by decide)]
    decide +kernel
theorem legal_ac : ¬ LegalS [itA, itC] ⟨[], []⟩ := by
  rw [legal_two (by decide +kernel) (by decide +kernel) (by decide) (by decide)]
  rintro (⟨-, -, h⟩ | ⟨h, -⟩)
  · unfold itA itC at h
    rw [put_next (by decide +kernel) (by decide +kernel) (by decide +kernel), get_ok (by decide +kernel) (by decide +kernel) (by decide), set_a, get_a] at h
    exact absurd h (by decide)
  · exact absurd h (by decide +kernel)
set_option maxHeartbeats 800000 in
set_option maxRecDepth 100000 in
theorem awake25 (w : World) (htab : Tab w.heap.size w) : Calls Tryz.prog 5 #[] w fun e w' => e = .returned (.bool true) ∧ Below w.heap.size w w' := by
  have HT := hid htab
  clear htab
  have P1 := put25 ⟨#[97]⟩ ⟨#[49]⟩
  have G1 := get25 ⟨#[97]⟩
  have L1 : ∀ (W : World) (b : Nat), Below w.heap.size w W → W.heap[b]? = some (.cells (itA.s.enc ++ itB.s.enc).toArray 52 (0, 0)) → Calls Tryz.prog 9 #[.agg #[.slice none 0 0, .slice none 0 0], .slice (some ⟨b, 0, none⟩) 2 2] W (GivesB2 true W) := fun W b hW h =>
    (legal_pair (x := itA) (y := itB) ⟨_, _, _, _, _, _, _, _, rfl⟩ ⟨_, _, _, _, _, _, _, _, rfl⟩ W b h (by simp) ⟨[], []⟩ none 0 none 0 (shIn_nil W _) small_nil (HT.out.up hW)).mono fun e w' hg => hg.yes rfl (may_two (by decide) (by decide) (.inr (by decide)) (.inr (by decide))) (by decide +kernel) legal_ab
  have L2 : ∀ (W : World) (b : Nat), Below w.heap.size w W → W.heap[b]? = some (.cells (itA.s.enc ++ itC.s.enc).toArray 52 (0, 0)) → Calls Tryz.prog 9 #[.agg #[.slice none 0 0, .slice none 0 0], .slice (some ⟨b, 0, none⟩) 2 2] W (GivesB2 false W) := fun W b hW h =>
    (legal_pair (x := itA) (y := itC) ⟨_, _, _, _, _, _, _, _, rfl⟩ ⟨_, _, _, _, _, _, _, _, rfl⟩ W b h (by simp) ⟨[], []⟩ none 0 none 0 (shIn_nil W _) small_nil (HT.out.up hW)).mono fun e w' hg => hg.not rfl (may_two (by decide) (by decide) (.inr (by decide)) (.inr (by decide))) (by decide +kernel) legal_ac
  go_enter Tryz.func5, Tryz.ntmps5
  go_wp2_with fail
  refine (P1 _).mono ?_
  rintro e w1 ⟨rfl, hb1⟩
  go_wp2_with fail
  refine (G1 _).mono ?_
  rintro e w2 ⟨rfl, hb2⟩
  go_wp2_with fail
  refine (G1 _).mono ?_
  rintro e w3 ⟨rfl, hb3⟩
  go_upto_region 4 with fail
  generalize hw4 : World.alloc w3 _ = w4
  have z1 := hb1.size
  have z2 : w1.heap.size + 1 ≤ w2.heap.size := by have := hb2.size; simpa using this
  have z3 : w2.heap.size + 1 ≤ w3.heap.size := by have := hb3.size; simpa using this
  have z4 : w4.heap.size = w3.heap.size + 1 := by rw [← hw4]; simp
  have ra : w4.heap[w1.heap.size]? = some (.cells itA.s.enc.toArray 52 (0, 0)) := by
    rw [← hw4]
    exact (Below.heap_alloc _ _ _ (by omega)).trans ((hb3.block _ (by simp; omega)).trans ((Below.heap_alloc _ _ _ (by omega)).trans ((hb2.block _ (by simp)).trans ((heap_alloc_if _ _ _).trans (if_pos rfl)))))
  have rb : w4.heap[w2.heap.size]? = some (.cells itB.s.enc.toArray 52 (0, 0)) := by
    rw [← hw4]
    exact (Below.heap_alloc _ _ _ (by omega)).trans ((hb3.block _ (by simp)).trans ((heap_alloc_if _ _ _).trans (if_pos rfl)))
  have rc : w4.heap[w3.heap.size]? = some (.cells itC.s.enc.toArray 52 (0, 0)) := by
    rw [← hw4]
    exact (heap_alloc_if _ _ _).trans (if_pos rfl)
  have b2 : Below w.heap.size w w2 := (hb1.alloc z1 _).trans (hb2.mono (by simp; omega))
  have b3 : Below w.heap.size w w3 := (b2.alloc (by omega) _).trans (hb3.mono (by simp; omega))
  have b4 : Below w.heap.size w w4 := by rw [← hw4]; exact b3.alloc (by omega) _
  clear hw4 hb1 hb2 hb3 b2 b3
  obtain ⟨a1, a2, a3, a4, a5, a6, a7, a8, a9, a10, a11, a0, a12, a13⟩ := row_story ra
  obtain ⟨x1, x2, x3, x4, x5, x6, x7, x8, x9, x10, x11, x0, x12, x13⟩ := row_story rb
  have la := lt_of_heap ra
  have lb := lt_of_heap rb
  have lc := lt_of_heap rc
  have HRA := hid ra
  have HRC := hid rc
  have HZ4 := hid z4
  clear z4
  clear ra rb rc
  go_upto_region 5 with (go_at_call 9; refine (L1 _ w4.heap.size (b4.alloc b4.size _) (by rw [heap_alloc_if, if_pos rfl]; rfl)).mono ?_; rintro e w5 ⟨rfl, hb5⟩)
  have b5 : Below w.heap.size w w5 := (b4.alloc b4.size _).trans (hb5.mono (by have := b4.size; simp; omega))
  have ra := (hb5.block _ (by have := HZ4.out; simp; omega)).trans ((Below.heap_alloc _ _ _ la).trans HRA.out)
  have rc := (hb5.block _ (by have := HZ4.out; simp; omega)).trans ((Below.heap_alloc _ _ _ lc).trans HRC.out)
  clear a0 a1 a2 a3 a4 a5 a6 a7 a8 a9 a10 a11 a12 a13 x0 x1 x2 x3 x4 x5 x6 x7 x8 x9 x10 x11 x12 x13 hb5 lb L1
  obtain ⟨a1, a2, a3, a4, a5, a6, a7, a8, a9, a10, a11, a0, a12, a13⟩ := row_story ra
  obtain ⟨x1, x2, x3, x4, x5, x6, x7, x8, x9, x10, x11, x0, x12, x13⟩ := row_story rc
  have la5 := lt_of_heap ra
  have lc5 := lt_of_heap rc
  clear ra rc
  go_wp2_with (go_at_call 9; refine (L2 _ w5.heap.size (b5.alloc b5.size _) (by rw [heap_alloc_if, if_pos rfl]; rfl)).mono ?_; rintro e w6 ⟨rfl, hb6⟩)
  go_ret
  exact ⟨rfl, (b5.alloc b5.size _).trans (hb6.mono (by have := b5.size; simp; omega))⟩
end Go.Proofs.YtamcehfcjcmpmaaGreatDoor
namespace Go.Proofs.YtamcehfcjcmpmaaGreatDoor
open Go.RowKit

theorem hasK_get (l : List Pair) (key : ByteArray) : hasK l key = (getD' l key).2 := (getD'_hasK l key).symm
theorem getD'_nil (key : ByteArray) : getD' [] key = (ByteArray.empty, false) := getD'_none (by simp)
theorem counts_flat {k : Int} {key val vl : ByteArray} {fd : Bool} {bg en : Int} (hk : kindB k = true) : countsB (flatI k key val 0 fd vl bg en).s = true := by
  show (kindB k && (decide (en < 0) || decide ((0 : Int) = 0))) = true
  rw [hk]
  simp
theorem befB_no {k k' : Int} {key val vl key' val' vl' : ByteArray} {code code' : Int} {fd fd' : Bool} {bg en bg' en' : Int} (h : en < 0 ∨ bg' ≤ en) : befB (flatI k key val code fd vl bg en).s (flatI k' key' val' code' fd' vl' bg' en').s = false := by
  show (decide (0 ≤ en) && decide (en < bg')) = false
  rcases h with h | h
  · rw [decide_eq_false (by omega), Bool.false_and]
  · rw [decide_eq_false (p := en < bg') (by omega), Bool.and_false]
theorem befB_yes {k k' : Int} {key val vl key' val' vl' : ByteArray} {code code' : Int} {fd fd' : Bool} {bg en bg' en' : Int} (h : 0 ≤ en) (h' : en < bg') : befB (flatI k key val code fd vl bg en).s (flatI k' key' val' code' fd' vl' bg' en').s = true := by
  show (decide (0 ≤ en) && decide (en < bg')) = true
  rw [decide_eq_true h, decide_eq_true h']
  rfl
theorem beq_comm' (a b : Bool) : (a == b) = (b == a) := by cases a <;> cases b <;> rfl
theorem stale_law (key val told : ByteArray) (fd : Bool) (g : Int) (h0 : key.toList.isEmpty = false) (h1 : key.size ≤ 16) (h2 : val.size ≤ 400) (hg : 3 ≤ g) :
    LegalS [flatI 2 key val 0 false ByteArray.empty 1 2, flatI 1 key ByteArray.empty 0 fd told g 200] ⟨[], []⟩ ↔ (fd && told.toList == val.toList) = true := by
  rw [legal_two (counts_flat rfl) (counts_flat rfl) (by show (0 : Int) ≤ 2; decide) (by show (0 : Int) ≤ 200; decide), befB_no (.inr (by omega)), befB_yes (by omega) (by omega), put_next h0 h1 h2, put_ok h0 h1 h2 (by omega), get_ok h0 h1 (by omega), getD'_set, if_pos rfl, hasK_get, getD'_nil]
  simp
/-- a store of one pair -/
theorem open_get (key val was told : ByteArray) (h0 : key.toList.isEmpty = false) (h1 : key.size ≤ 16) (h2 : val.size ≤ 400) :
    LegalS [flatI 2 key val 0 false ByteArray.empty 1 (-1), flatI 1 key ByteArray.empty 0 true told 3 4] ⟨[⟨key, was⟩], []⟩ ↔ told = was ∨ told = val := by
  rw [legal_open (counts_flat rfl) (counts_flat rfl) (by show (-1 : Int) < 0; decide) (by show (0 : Int) ≤ 4; decide), befB_no (.inl (by omega)), befB_no (.inr (by omega)), put_next h0 h1 h2, get_ok h0 h1 (by omega), get_ok h0 h1 (by omega), open_ok (k := 2) (by omega), getD'_set, if_pos rfl, getD'_cons, if_pos rfl]
  simp [toList_iff]
/-- a list of puts; those from the n-th on have failed -/
def manyI (n i : Nat) : Item := if i < n then flatI 2 ⟨#[97]⟩ ByteArray.empty 0 (decide (0 < i)) ByteArray.empty (2 * i : Nat) (2 * i + 1 : Nat) else flatI 2 ⟨#[97]⟩ ByteArray.empty 4 false ByteArray.empty (2 * i : Nat) (2 * i + 1 : Nat)
def manyL (n m : Nat) : List Item := (List.range m).map (manyI n)
theorem manyI_flat (n i : Nat) : ∃ k key val code fd vl bg en, manyI n i = flatI k key val code fd vl bg en := by
  unfold manyI
  split
  · exact ⟨_, _, _, _, _, _, _, _, rfl⟩
  · exact ⟨_, _, _, _, _, _, _, _, rfl⟩
theorem manyI_bg (n i : Nat) : (manyI n i).s.bg = (2 * i : Nat) := by unfold manyI; split <;> rfl
theorem manyI_en (n i : Nat) : (manyI n i).s.en = (2 * i + 1 : Nat) := by unfold manyI; split <;> rfl
theorem manyI_counts (n i : Nat) : countsB (manyI n i).s = decide (i < n) := by
  unfold manyI
  split
  · rename_i h
    rw [counts_flat rfl, decide_eq_true h]
  · rename_i h
    rw [decide_eq_false h]
    show (kindB 2 && (decide (((2 * i + 1 : Nat) : Int) < 0) || decide ((4 : Int) = 0))) = false
    rw [decide_eq_false (by omega)]
    decide
theorem manyL_len (n m : Nat) : (manyL n m).length = m := by simp [manyL]
theorem manyL_succ (n m : Nat) : manyL n (m + 1) = manyL n m ++ [manyI n m] := by simp [manyL, List.range_succ]
theorem manyL_may (n m : Nat) : MayS (stories (manyL n m)) := fun i hi _ => by
  have hl : (stories (manyL n m)).length = m := by simp [stories, manyL]
  have hg : ∀ j (h : j < (stories (manyL n m)).length), (stories (manyL n m))[j] = (manyI n j).s := fun j h => by simp [stories, manyL]
  have h1 : (stories (manyL n m))[i].bg = (2 * i : Nat) := by rw [hg, manyI_bg]
  have h2 : (stories (manyL n m))[i].en = (2 * i + 1 : Nat) := by rw [hg, manyI_en]
  refine ⟨by rw [h1]; omega, fun j hj => ?_, .inr (by rw [h1, h2]; omega)⟩
  rw [h1, hg j (by omega), manyI_bg]
  omega
theorem manyL_picks (n : Nat) : ∀ k, picks (manyL n (n + k)) = (List.range n).map (manyI n)
  | 0 => by
    unfold picks manyL
    rw [Nat.add_zero]
    refine List.filter_eq_self.2 fun x hx => ?_
    obtain ⟨i, hi, rfl⟩ := List.mem_map.1 hx
    rw [manyI_counts]
    simpa using hi
  | k + 1 => by
    have h := manyL_picks n k
    unfold picks at h ⊢
    rw [← Nat.add_assoc, manyL_succ, List.filter_append, h, List.filter_cons_of_neg (by rw [manyI_counts]; simp)]
    simp
theorem many_next {n i : Nat} (h : i < n) (S : Shelf) : (manyI n i).next S = ⟨setP S.pairs ⟨#[97]⟩ ByteArray.empty, S.queue⟩ := by
  unfold manyI
  rw [if_pos h, put_next (by decide +kernel) (by decide +kernel) (by decide +kernel)]
theorem many_law (n k : Nat) : LegalS (manyL n (n + k)) ⟨[], []⟩ := by
  intro must hm
  rw [manyL_picks] at hm ⊢
  have hl : ((List.range n).map (manyI n)).length = n := by simp
  have hg : ∀ j (h : j < ((List.range n).map (manyI n)).length), ((List.range n).map (manyI n))[j] = manyI n j := fun j h => by simp
  have hrun : ∀ j, j ≤ n → hasK (runTo ((List.range n).map (manyI n)) ⟨[], []⟩ j).pairs ⟨#[97]⟩ = decide (0 < j) := by
    intro j
    induction j with
    | zero => intro _; exact (by decide +kernel : hasK [] (⟨#[97]⟩ : ByteArray) = decide (0 < 0))
    | succ j ih =>
      intro hj
      rw [runTo_succ (by rw [hl]; omega), hg j (by rw [hl]; omega), many_next (by omega), hasK_get, getD'_set, if_pos rfl]
      simp
  refine leads_inorder (must_mbit hm) (fun i j hi hj hij => ?_) fun i hi => ?_
  · rw [hg, hg]
    have h1 := manyI_en n j
    have h2 := manyI_bg n i
    unfold befB
    rw [h1, h2, decide_eq_false (p := ((2 * j + 1 : Nat) : Int) < _) (by omega), Bool.and_false]
  · have hi' : i < n := by rw [hl] at hi; exact hi
    rw [hg, show manyI n i = flatI 2 ⟨#[97]⟩ ByteArray.empty 0 (decide (0 < i)) ByteArray.empty (2 * i : Nat) (2 * i + 1 : Nat) from if_pos hi', put_ok (by decide +kernel) (by decide +kernel) (by decide +kernel) (by omega), hrun i (by omega)]
    simp
end Go.Proofs.YtamcehfcjcmpmaaGreatDoor
