/- What every program answers that is one (chapter 25). -/
import Derived.Test.YtamcehfcjcmpmaaDoorSrT
namespace Go.Proofs.YtamcehfcjcmpmaaDoor
open Go.RowKit

theorem put25 (k v : ByteArray) (w : World) : Calls Tryd.prog 17 #[.string k, .string v] w fun e w' => e = .returned (.agg #[.int .i64 2, .string k, .string v, .string ByteArray.empty, .slice none 0 0]) ∧ Below w.heap.size w w' := by
  go_enter Tryd.func17, Tryd.ntmps17
  go_wp2
  refine bodyPost_ret (v := .agg #[.int .i64 2, .string k, .string v, .string ByteArray.empty, .slice none 0 0]) (by simp [results, Tryd.results17, go_sem]; rfl) rfl ⟨rfl, ?_⟩
  exact (by repeat (first | exact Below.refl _ _ | assumption | refine Below.drew ?_ | refine below_drewN ?_ _ | refine Below.alloc ?_ (by first | omega | (simp; done) | (simp; omega)) _ | refine Below.setCell ?_ (by first | omega | (simp; done) | (simp; omega)) _))
theorem get25 (k : ByteArray) (w : World) : Calls Tryd.prog 18 #[.string k] w fun e w' => e = .returned (.agg #[.int .i64 1, .string k, .string ByteArray.empty, .string ByteArray.empty, .slice none 0 0]) ∧ Below w.heap.size w w' := by
  go_enter Tryd.func18, Tryd.ntmps18
  go_wp2
  refine bodyPost_ret (v := .agg #[.int .i64 1, .string k, .string ByteArray.empty, .string ByteArray.empty, .slice none 0 0]) (by simp [results, Tryd.results18, go_sem]; rfl) rfl ⟨rfl, ?_⟩
  exact (by repeat (first | exact Below.refl _ _ | assumption | refine Below.drew ?_ | refine below_drewN ?_ _ | refine Below.alloc ?_ (by first | omega | (simp; done) | (simp; omega)) _ | refine Below.setCell ?_ (by first | omega | (simp; done) | (simp; omega)) _))
theorem may_two {x y : Story} (h1 : 0 ≤ x.bg) (h2 : x.bg < y.bg) (h3 : x.en = -1 ∨ x.bg < x.en) (h4 : y.en = -1 ∨ y.bg < y.en) : MayS [x, y] := fun i hi _ => by
  match i, hi with
  | 0, _ => exact ⟨h1, fun j h => absurd h (by omega), h3⟩
  | 1, _ => exact ⟨by show 0 ≤ y.bg; omega, fun j h => by
      obtain rfl : j = 0 := by omega
      exact h2, h4⟩
  | i + 2, hi => exact absurd hi (by simp)
/-- Legal of stories that may be, few of them -/
def GivesB2 (r : Bool) (w : World) (e : Ending) (w' : World) : Prop := e = .returned (.tuple #[.bool r, .int .i64 0]) ∧ Below w.heap.size w w'
theorem GivesLegal.yes {xs : List Item} {S : Shelf} {w w' : World} {e : Ending} (h : GivesLegal xs S w e w') (h1 : mayB S.pairs = true) (h2 : MayS (stories xs)) (h3 : (picks xs).length ≤ 12) (h4 : LegalS xs S) : GivesB2 true w e w' := by
  obtain ⟨hb, r, code, rfl, -, -, hc⟩ := h
  obtain ⟨rfl, h5⟩ := hc ⟨h1, h2⟩ h3
  rw [h5.2 h4]
  exact ⟨rfl, hb⟩
theorem GivesLegal.not {xs : List Item} {S : Shelf} {w w' : World} {e : Ending} (h : GivesLegal xs S w e w') (h1 : mayB S.pairs = true) (h2 : MayS (stories xs)) (h3 : (picks xs).length ≤ 12) (h4 : ¬ LegalS xs S) : GivesB2 false w e w' := by
  obtain ⟨hb, r, code, rfl, -, -, hc⟩ := h
  obtain ⟨rfl, h5⟩ := hc ⟨h1, h2⟩ h3
  cases r with
  | true => exact absurd (h5.1 rfl) h4
  | false => exact ⟨rfl, hb⟩
theorem story_cells {w : World} {b : Nat} {l : List Story} {cs : Array Value} (h : w.heap[b]? = some (.cells cs 44 (0, 0))) (hcs : cs.toList = l.flatMap Story.enc) : Arr Story.enc 14 w w.heap.size (some ⟨b, 0, none⟩) l :=
  Arr.of_cells Story.enc_len (lt_of_heap h) fun j u hu => by
    rw [Nat.zero_add, cell_of_row w b j _ _ _ h, ← Array.getElem?_toList, hcs]
    exact hu
theorem flat2 {x y : Item} (hx : ∃ k key val code fd vl bg en, x = flatI k key val code fd vl bg en) (hy : ∃ k key val code fd vl bg en, y = flatI k key val code fd vl bg en) : ∀ z ∈ [x, y], ∃ k key val code fd vl bg en, z = flatI k key val code fd vl bg en := by
  intro z hz
  simp only [List.mem_cons, List.not_mem_nil, or_false] at hz
  rcases hz with rfl | rfl
  · exact hx
  · exact hy
theorem small_nil : Small ⟨[], []⟩ 0 := ⟨by simp, by simp, by simp, by simp⟩
theorem shIn_nil (w : World) (B : Nat) : ShIn w B none 0 none 0 ⟨[], []⟩ := ⟨Arr.nil, by simp, by simp, Arr.nil, by simp, by simp⟩
theorem legal_pair {x y : Item} (hx : ∃ k key val code fd vl bg en, x = flatI k key val code fd vl bg en) (hy : ∃ k key val code fd vl bg en, y = flatI k key val code fd vl bg en) (W : World) (b : Nat) {cs : Array Value} (h : W.heap[b]? = some (.cells cs 44 (0, 0))) (hcs : cs.toList = x.s.enc ++ y.s.enc)
    (S : Shelf) (PA : Option Addr) (pc : Nat) (QA : Option Addr) (qc : Nat) (hsh : ShIn W W.heap.size PA pc QA qc S) (hsm : Small S 0) (htab : Tab W.heap.size W) :
    Calls Tryd.prog 16 #[.agg #[.slice PA S.pairs.length pc, .slice QA S.queue.length qc], .slice (some ⟨b, 0, none⟩) 2 2] W (GivesLegal [x, y] S W) :=
  legal_any [x, y] (some ⟨b, 0, none⟩) 2 S PA pc QA qc W (flatI_sts (flat2 hx hy) (story_cells h (by rw [hcs]; simp [stories])) (by simp) (by decide)) (by simp) hsh hsm htab
def keyA : ByteArray := ⟨#[97]⟩
def valA : ByteArray := ⟨#[49]⟩
def itA : Item := flatI 2 ⟨#[97]⟩ ⟨#[49]⟩ 0 false ByteArray.empty 1 4
def itB : Item := flatI 1 ⟨#[97]⟩ ByteArray.empty 0 false ByteArray.empty 2 3
def itC : Item := flatI 1 ⟨#[97]⟩ ByteArray.empty 0 false ByteArray.empty 5 6
theorem set_a : setP [] ⟨#[97]⟩ ⟨#[49]⟩ = [⟨⟨#[97]⟩, ⟨#[49]⟩⟩] := by simp [setP, ins]
theorem get_a : getD' [⟨⟨#[97]⟩, ⟨#[49]⟩⟩] ⟨#[97]⟩ = (⟨#[49]⟩, true) := by decide +kernel
theorem legal_ab : LegalS [itA, itB] ⟨[], []⟩ := by
  refine (legal_two (by decide +kernel) (by decide +kernel) (by decide) (by decide)).2 (.inr ⟨by decide +kernel, ?_, ?_⟩)
  · unfold itB
    rw [get_ok (by decide +kernel) (by decide +kernel) (by decide)]
    decide +kernel
  · unfold itA itB
    rw [get_next, put_ok (by decide +kernel) (by decide +kernel) (by decide +kernel) (by decide)]
    decide +kernel
theorem legal_ac : ¬ LegalS [itA, itC] ⟨[], []⟩ := by
  rw [legal_two (by decide +kernel) (by decide +kernel) (by decide) (by decide)]
  rintro (⟨-, -, h⟩ | ⟨h, -⟩)
  · unfold itA itC at h
    rw [put_next (by decide +kernel) (by decide +kernel) (by decide +kernel), get_ok (by decide +kernel) (by decide +kernel) (by decide), set_a, get_a] at h
    exact absurd h (by decide)
  · exact absurd h (by decide +kernel)
set_option maxHeartbeats 800000 in
set_option maxRecDepth 100000 in
theorem awake25 (w : World) (htab : Tab w.heap.size w) : Calls Tryd.prog 11 #[] w fun e w' => e = .returned (.bool true) ∧ Below w.heap.size w w' := by
  have HT := hid htab
  clear htab
  have P1 := put25 ⟨#[97]⟩ ⟨#[49]⟩
  have G1 := get25 ⟨#[97]⟩
  have L1 : ∀ (W : World) (b : Nat), Below w.heap.size w W → W.heap[b]? = some (.cells (itA.s.enc ++ itB.s.enc).toArray 44 (0, 0)) → Calls Tryd.prog 16 #[.agg #[.slice none 0 0, .slice none 0 0], .slice (some ⟨b, 0, none⟩) 2 2] W (GivesB2 true W) := fun W b hW h =>
    (legal_pair (x := itA) (y := itB) ⟨_, _, _, _, _, _, _, _, rfl⟩ ⟨_, _, _, _, _, _, _, _, rfl⟩ W b h (by simp) ⟨[], []⟩ none 0 none 0 (shIn_nil W _) small_nil (HT.out.up hW)).mono fun e w' hg => hg.yes rfl (may_two (by decide) (by decide) (.inr (by decide)) (.inr (by decide))) (by decide +kernel) legal_ab
  have L2 : ∀ (W : World) (b : Nat), Below w.heap.size w W → W.heap[b]? = some (.cells (itA.s.enc ++ itC.s.enc).toArray 44 (0, 0)) → Calls Tryd.prog 16 #[.agg #[.slice none 0 0, .slice none 0 0], .slice (some ⟨b, 0, none⟩) 2 2] W (GivesB2 false W) := fun W b hW h =>
    (legal_pair (x := itA) (y := itC) ⟨_, _, _, _, _, _, _, _, rfl⟩ ⟨_, _, _, _, _, _, _, _, rfl⟩ W b h (by simp) ⟨[], []⟩ none 0 none 0 (shIn_nil W _) small_nil (HT.out.up hW)).mono fun e w' hg => hg.not rfl (may_two (by decide) (by decide) (.inr (by decide)) (.inr (by decide))) (by decide +kernel) legal_ac
  go_enter Tryd.func11, Tryd.ntmps11
  go_wp2_with fail
  refine (P1 _).mono ?_
  rintro e w1 ⟨rfl, hb1⟩
  go_wp2_with fail
  refine (G1 _).mono ?_
  rintro e w2 ⟨rfl, hb2⟩
  go_wp2_with fail
  refine (G1 _).mono ?_
  rintro e w3 ⟨rfl, hb3⟩
  go_upto_region 4 with fail
  generalize hw4 : World.alloc w3 _ = w4
  have z1 := hb1.size
  have z2 : w1.heap.size + 1 ≤ w2.heap.size := by have := hb2.size; simpa using this
  have z3 : w2.heap.size + 1 ≤ w3.heap.size := by have := hb3.size; simpa using this
  have z4 : w4.heap.size = w3.heap.size + 1 := by rw [← hw4]; simp
  have ra : w4.heap[w1.heap.size]? = some (.cells itA.s.enc.toArray 44 (0, 0)) := by
    rw [← hw4]
    exact (Below.heap_alloc _ _ _ (by omega)).trans ((hb3.block _ (by simp; omega)).trans ((Below.heap_alloc _ _ _ (by omega)).trans ((hb2.block _ (by simp)).trans ((heap_alloc_if _ _ _).trans (if_pos rfl)))))
  have rb : w4.heap[w2.heap.size]? = some (.cells itB.s.enc.toArray 44 (0, 0)) := by
    rw [← hw4]
    exact (Below.heap_alloc _ _ _ (by omega)).trans ((hb3.block _ (by simp)).trans ((heap_alloc_if _ _ _).trans (if_pos rfl)))
  have rc : w4.heap[w3.heap.size]? = some (.cells itC.s.enc.toArray 44 (0, 0)) := by
    rw [← hw4]
    exact (heap_alloc_if _ _ _).trans (if_pos rfl)
  have b2 : Below w.heap.size w w2 := (hb1.alloc z1 _).trans (hb2.mono (by simp; omega))
  have b3 : Below w.heap.size w w3 := (b2.alloc (by omega) _).trans (hb3.mono (by simp; omega))
  have b4 : Below w.heap.size w w4 := by rw [← hw4]; exact b3.alloc (by omega) _
  clear hw4 hb1 hb2 hb3 b2 b3
  obtain ⟨a1, a2, a3, a4, a5, a6, a7, a8, a9, a10, a11, a0, a12, a13⟩ := row_story ra
  obtain ⟨x1, x2, x3, x4, x5, x6, x7, x8, x9, x10, x11, x0, x12, x13⟩ := row_story rb
  have la := lt_of_heap ra
  have lb := lt_of_heap rb
  have lc := lt_of_heap rc
  have HRA := hid ra
  have HRC := hid rc
  have HZ4 := hid z4
  clear z4
  clear ra rb rc
  go_upto_region 5 with (go_at_call 16; refine (L1 _ w4.heap.size (b4.alloc b4.size _) (by rw [heap_alloc_if, if_pos rfl]; rfl)).mono ?_; rintro e w5 ⟨rfl, hb5⟩)
  have b5 : Below w.heap.size w w5 := (b4.alloc b4.size _).trans (hb5.mono (by have := b4.size; simp; omega))
  have ra := (hb5.block _ (by have := HZ4.out; simp; omega)).trans ((Below.heap_alloc _ _ _ la).trans HRA.out)
  have rc := (hb5.block _ (by have := HZ4.out; simp; omega)).trans ((Below.heap_alloc _ _ _ lc).trans HRC.out)
  clear a0 a1 a2 a3 a4 a5 a6 a7 a8 a9 a10 a11 a12 a13 x0 x1 x2 x3 x4 x5 x6 x7 x8 x9 x10 x11 x12 x13 hb5 lb L1
  obtain ⟨a1, a2, a3, a4, a5, a6, a7, a8, a9, a10, a11, a0, a12, a13⟩ := row_story ra
  obtain ⟨x1, x2, x3, x4, x5, x6, x7, x8, x9, x10, x11, x0, x12, x13⟩ := row_story rc
  have la5 := lt_of_heap ra
  have lc5 := lt_of_heap rc
  clear ra rc
  go_wp2_with (go_at_call 16; refine (L2 _ w5.heap.size (b5.alloc b5.size _) (by rw [heap_alloc_if, if_pos rfl]; rfl)).mono ?_; rintro e w6 ⟨rfl, hb6⟩)
  go_ret
  exact ⟨rfl, (b5.alloc b5.size _).trans (hb6.mono (by have := b5.size; simp; omega))⟩
end Go.Proofs.YtamcehfcjcmpmaaDoor
