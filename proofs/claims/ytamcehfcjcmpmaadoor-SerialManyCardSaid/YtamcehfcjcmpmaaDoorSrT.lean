/- Two stories; stories of calls without a group. Plain facts; no program is walked. -/
import Derived.Test.YtamcehfcjcmpmaaDoorLeg
import Derived.Test.YtamcehfcjcmpmaaDoorSrL
namespace Go.Proofs.YtamcehfcjcmpmaaDoor
open Go.RowKit

theorem by2 {x y : Item} {must d : Nat} {S : Shelf} : (∃ i, LeadsBy [x, y] must d S i) ↔ LeadsBy [x, y] must d S 0 ∨ LeadsBy [x, y] must d S 1 := by
  constructor
  · rintro ⟨i, h⟩
    match i, h with
    | 0, h => exact .inl h
    | 1, h => exact .inr h
    | i + 2, ⟨hi, _⟩ => exact absurd hi (by simp)
  · rintro (h | h)
    · exact ⟨_, h⟩
    · exact ⟨_, h⟩
theorem by2_0 {x y : Item} {must d : Nat} {S : Shelf} : LeadsBy [x, y] must d S 0 ↔ d.testBit 0 = false ∧ (d.testBit 1 = false → befB y.s x.s = false) ∧ x.ok S = true ∧ Leads [x, y] must (d ||| 1) (x.next S) := by
  constructor
  · rintro ⟨hi, ⟨_, h1, h2⟩, h3, h4⟩
    exact ⟨h1, fun hb => h2 1 (by simp) (by simp) hb, h3, h4⟩
  · rintro ⟨h1, h2, h3, h4⟩
    refine ⟨by simp, ⟨by simp, h1, fun j hj hne hb => ?_⟩, h3, h4⟩
    match j, hj, hne, hb with
    | 0, _, hne, _ => exact absurd rfl hne
    | 1, _, _, hb => exact h2 hb
    | j + 2, hj, _, _ => exact absurd hj (by simp)
theorem by2_1 {x y : Item} {must d : Nat} {S : Shelf} : LeadsBy [x, y] must d S 1 ↔ d.testBit 1 = false ∧ (d.testBit 0 = false → befB x.s y.s = false) ∧ y.ok S = true ∧ Leads [x, y] must (d ||| 2) (y.next S) := by
  constructor
  · rintro ⟨hi, ⟨_, h1, h2⟩, h3, h4⟩
    exact ⟨h1, fun hb => h2 0 (by simp) (by simp) hb, h3, h4⟩
  · rintro ⟨h1, h2, h3, h4⟩
    refine ⟨by simp, ⟨by simp, h1, fun j hj hne hb => ?_⟩, h3, h4⟩
    match j, hj, hne, hb with
    | 0, _, _, hb => exact h2 hb
    | 1, _, hne, _ => exact absurd rfl hne
    | j + 2, hj, _, _ => exact absurd hj (by simp)
theorem leads_two (x y : Item) (S : Shelf) : Leads [x, y] 3 0 S ↔ (befB y.s x.s = false ∧ x.ok S = true ∧ y.ok (x.next S) = true) ∨ (befB x.s y.s = false ∧ y.ok S = true ∧ x.ok (y.next S) = true) := by
  have d3 : ∀ T, Leads [x, y] 3 3 T := fun T => leads_fin (by decide)
  have d1 : ∀ T, Leads [x, y] 3 1 T ↔ y.ok T = true := fun T => by
    rw [leads_iff, by2, by2_0, by2_1]
    simp [d3, show (1 : Nat) ||| 2 = 3 from rfl, show (1 : Nat).testBit 1 = false from rfl]
  have d2 : ∀ T, Leads [x, y] 3 2 T ↔ x.ok T = true := fun T => by
    rw [leads_iff, by2, by2_0, by2_1]
    simp [d3, show (2 : Nat) ||| 1 = 3 from rfl, show (2 : Nat).testBit 1 = true from rfl]
  rw [leads_iff, by2, by2_0, by2_1]
  simp [d1, d2]
/-- the first one has not ended -/
theorem leads_open (x y : Item) (S : Shelf) : Leads [x, y] 2 0 S ↔ (befB x.s y.s = false ∧ y.ok S = true) ∨ (befB y.s x.s = false ∧ x.ok S = true ∧ y.ok (x.next S) = true) := by
  have d3 : ∀ T, Leads [x, y] 2 3 T := fun T => leads_fin (by decide)
  have d2 : ∀ T, Leads [x, y] 2 2 T := fun T => leads_fin (by decide)
  have d1 : ∀ T, Leads [x, y] 2 1 T ↔ y.ok T = true := fun T => by
    rw [leads_iff, by2, by2_0, by2_1]
    simp [d3, show (1 : Nat) ||| 2 = 3 from rfl, show (1 : Nat).testBit 1 = false from rfl]
  rw [leads_iff, by2, by2_0, by2_1]
  simp [d1, d2]
  exact Or.comm
theorem must_two {x y : Story} (hx : 0 ≤ x.en) (hy : 0 ≤ y.en) : MustIs [x, y] 3 := fun i => by
  match i with
  | 0 => exact ⟨fun _ => ⟨by simp, hx⟩, fun _ => rfl⟩
  | 1 => exact ⟨fun _ => ⟨by simp, hy⟩, fun _ => rfl⟩
  | i + 2 =>
    refine ⟨fun h => ?_, fun ⟨h, _⟩ => absurd h (by simp)⟩
    have : (3 : Nat).testBit (i + 2) = false := by
      rw [Nat.testBit_lt_two_pow]
      have : 2 ^ 2 ≤ 2 ^ (i + 2) := Nat.pow_le_pow_right (by decide) (by omega)
      omega
    rw [this] at h
    cases h
theorem must_open {x y : Story} (hx : x.en < 0) (hy : 0 ≤ y.en) : MustIs [x, y] 2 := fun i => by
  match i with
  | 0 => exact ⟨fun h => absurd h (by decide), fun ⟨_, h⟩ => absurd h (by show ¬ 0 ≤ x.en; omega)⟩
  | 1 => exact ⟨fun _ => ⟨by simp, hy⟩, fun _ => rfl⟩
  | i + 2 =>
    refine ⟨fun h => ?_, fun ⟨h, _⟩ => absurd h (by simp)⟩
    have : (2 : Nat).testBit (i + 2) = false := by
      rw [Nat.testBit_lt_two_pow]
      have : 2 ^ 2 ≤ 2 ^ (i + 2) := Nat.pow_le_pow_right (by decide) (by omega)
      omega
    rw [this] at h
    cases h
theorem picks_two {x y : Item} (hx : countsB x.s = true) (hy : countsB y.s = true) : picks [x, y] = [x, y] := by simp [picks, hx, hy]
theorem legalS_iff {xs : List Item} {S : Shelf} {must : Nat} (h : MustIs ((picks xs).map (·.s)) must) : LegalS xs S ↔ Leads (picks xs) must 0 S :=
  ⟨fun hl => hl must h, fun hl m hm => by rw [must_uniq hm h]; exact hl⟩
theorem legal_two {x y : Item} {S : Shelf} (cx : countsB x.s = true) (cy : countsB y.s = true) (hx : 0 ≤ x.s.en) (hy : 0 ≤ y.s.en) : LegalS [x, y] S ↔ (befB y.s x.s = false ∧ x.ok S = true ∧ y.ok (x.next S) = true) ∨ (befB x.s y.s = false ∧ y.ok S = true ∧ x.ok (y.next S) = true) := by
  have hp := picks_two cx cy
  rw [legalS_iff (must := 3) (by rw [hp]; exact must_two hx hy), hp, leads_two]
theorem legal_open {x y : Item} {S : Shelf} (cx : countsB x.s = true) (cy : countsB y.s = true) (hx : x.s.en < 0) (hy : 0 ≤ y.s.en) : LegalS [x, y] S ↔ (befB x.s y.s = false ∧ y.ok S = true) ∨ (befB y.s x.s = false ∧ x.ok S = true ∧ y.ok (x.next S) = true) := by
  have hp := picks_two cx cy
  rw [legalS_iff (must := 2) (by rw [hp]; exact must_open hx hy), hp, leads_open]
/-- a story of a call without a group, whose answer has neither pairs nor hits -/
def flatC (k : Int) (key val : ByteArray) : Call0 := ⟨k, key, val, ByteArray.empty, none, 0, 0⟩
def flatI (k : Int) (key val : ByteArray) (code : Int) (fd : Bool) (vl : ByteArray) (bg en : Int) : Item := ⟨⟨0, flatC k key val, code, fd, vl, none, 0, 0, none, 0, 0, 0, bg, en⟩, [], []⟩
theorem flatI_st (k : Int) (key val : ByteArray) (code : Int) (fd : Bool) (vl : ByteArray) (bg en : Int) (w : World) (B : Nat) : StIn w B (flatI k key val code fd vl bg en).s :=
  ⟨1, ⟨[], ⟨Arr.nil, rfl, by simp, by simp [flatI, flatC]⟩, by simp, by simp⟩, [], [], ⟨Arr.nil, rfl, by simp, by simp [flatI], Arr.nil, rfl, by simp, by simp [flatI]⟩, by simp, by simp⟩
theorem flatI_in (k : Int) (key val : ByteArray) (code : Int) (fd : Bool) (vl : ByteArray) (bg en : Int) (w : World) (B : Nat) : ItemIn w B (flatI k key val code fd vl bg en) :=
  ⟨⟨Arr.nil, rfl, by simp [flatI], by simp [flatI, flatC]⟩, Arr.nil, rfl, by simp [flatI]⟩
theorem flatI_sts {w : World} {B : Nat} {A : Option Addr} {c : Nat} {xs : List Item} (hf : ∀ x ∈ xs, ∃ k key val code fd vl bg en, x = flatI k key val code fd vl bg en) (h : Arr Story.enc 14 w B A (stories xs)) (hc : xs.length ≤ c) (hm : c ≤ 9223372036854775807) : StsIn w B A c xs :=
  ⟨h, fun x hx => by obtain ⟨_, _, _, _, _, _, _, _, rfl⟩ := hf x hx; exact flatI_st .., fun x hx => by obtain ⟨_, _, _, _, _, _, _, _, rfl⟩ := hf x hx; exact flatI_in .., hc, hm⟩
theorem good_flat {k : Int} {key val : ByteArray} (hk : k = 1 ∨ k = 2 ∨ k = 3) (h0 : key.toList.isEmpty = false) (h1 : key.size ≤ 16) (h2 : val.size ≤ 400) : goodI (flatC k key val) [] = 0 := by
  have hs : shapeB (flatC k key val) [] = true := by
    unfold shapeB
    rcases hk with rfl | rfl | rfl <;> simp [flatC, keyedB, h0]
  have hl : longB (flatC k key val) [] = false := by
    have e1 : decide ((16 : Int) < (key.size : Int)) = false := decide_eq_false (by omega)
    have e2 : decide ((400 : Int) < (val.size : Int)) = false := decide_eq_false (by omega)
    rcases hk with rfl | rfl | rfl
    · show (if (1 : Int) = 7 then _ else if (1 : Int) = 1 ∨ (1 : Int) = 3 then decide ((16 : Int) < (key.size : Int)) else _) = false
      rw [if_neg (by decide), if_pos (by decide)]
      exact e1
    · show (if (2 : Int) = 7 then _ else if (2 : Int) = 1 ∨ (2 : Int) = 3 then _ else if (2 : Int) = 2 then (decide ((16 : Int) < (key.size : Int)) || decide ((400 : Int) < (val.size : Int))) else _) = false
      rw [if_neg (by decide), if_neg (by decide), if_pos (by decide), e1, e2]
      rfl
    · show (if (3 : Int) = 7 then _ else if (3 : Int) = 1 ∨ (3 : Int) = 3 then decide ((16 : Int) < (key.size : Int)) else _) = false
      rw [if_neg (by decide), if_pos (by decide)]
      exact e1
  unfold goodI
  rw [hs, hl]
  rfl
theorem put_next {key val vl : ByteArray} {code : Int} {fd : Bool} {bg en : Int} {S : Shelf} (h0 : key.toList.isEmpty = false) (h1 : key.size ≤ 16) (h2 : val.size ≤ 400) : (flatI 2 key val code fd vl bg en).next S = ⟨setP S.pairs key val, S.queue⟩ := by
  have hg := good_flat (.inr (.inl rfl)) h0 h1 h2
  show apS (flatC 2 key val) [] S = _
  unfold apS
  rw [if_pos hg, if_neg (by show ¬ (2 : Int) = 7; decide)]
  rfl
theorem get_next {key vl : ByteArray} {code : Int} {fd : Bool} {bg en : Int} {S : Shelf} : (flatI 1 key ByteArray.empty code fd vl bg en).next S = S := by
  show apS (flatC 1 key ByteArray.empty) [] S = _
  unfold apS
  split
  · rw [if_neg (by show ¬ (1 : Int) = 7; decide)]; rfl
  · rfl
theorem del_next {key vl : ByteArray} {code : Int} {fd : Bool} {bg en : Int} {S : Shelf} (h0 : key.toList.isEmpty = false) (h1 : key.size ≤ 16) {val : ByteArray} (h2 : val.size ≤ 400) : (flatI 3 key val code fd vl bg en).next S = ⟨dropK key S.pairs, S.queue⟩ := by
  have hg := good_flat (.inr (.inr rfl)) h0 h1 h2
  show apS (flatC 3 key val) [] S = _
  unfold apS
  rw [if_pos hg, if_neg (by show ¬ (3 : Int) = 7; decide)]
  rfl
theorem put_ok {key val vl : ByteArray} {code : Int} {fd : Bool} {bg en : Int} {S : Shelf} (h0 : key.toList.isEmpty = false) (h1 : key.size ≤ 16) (h2 : val.size ≤ 400) (he : 0 ≤ en) : (flatI 2 key val code fd vl bg en).ok S = (fd == hasK S.pairs key && vl.toList == ByteArray.empty.toList) := by
  have hg := good_flat (.inr (.inl rfl)) h0 h1 h2
  show answeredB _ [] (apA (flatC 2 key val) [] S) = _
  unfold apA
  rw [if_pos hg, if_neg (by show ¬ (2 : Int) = 7; decide)]
  simp [answeredB, flatI, doA, flatC, ans0, show ¬ en < 0 by omega]
theorem get_ok {key vl : ByteArray} {code : Int} {fd : Bool} {bg en : Int} {S : Shelf} (h0 : key.toList.isEmpty = false) (h1 : key.size ≤ 16) (he : 0 ≤ en) : (flatI 1 key ByteArray.empty code fd vl bg en).ok S = (fd == (getD' S.pairs key).2 && vl.toList == (getD' S.pairs key).1.toList) := by
  have hg := good_flat (val := ByteArray.empty) (.inl rfl) h0 h1 (by simp)
  show answeredB _ [] (apA (flatC 1 key ByteArray.empty) [] S) = _
  unfold apA
  rw [if_pos hg, if_neg (by show ¬ (1 : Int) = 7; decide)]
  simp [answeredB, flatI, doA, flatC, ans0, show ¬ en < 0 by omega]
theorem open_ok {k : Int} {key val vl : ByteArray} {code : Int} {fd : Bool} {bg en : Int} {S : Shelf} (he : en < 0) : (flatI k key val code fd vl bg en).ok S = true := by
  show answeredB _ [] _ = true
  simp [answeredB, flatI, he]
end Go.Proofs.YtamcehfcjcmpmaaDoor
