/- Three rows of stories under way, apart from one another. No program is walked. -/
import Derived.Test.YtamcehfcjcmpmaaDoorSrU
/- Rows of stories without places: as orders of a list; stories of two keys can be told of each key alone. Plain facts; no program is walked. -/
namespace Go.Proofs.YtamcehfcjcmpmaaDoor
open Go.RowKit

/-- stories can be brought into an order that goes on from a store -/
inductive Lin : List Item → Shelf → Prop
  | nil {S} : Lin [] S
  | step {l l' x S} : l.Perm (x :: l') → (∀ y ∈ l', befB y.s x.s = false) → x.ok S = true → Lin l' (x.next S) → Lin l S
theorem Lin.perm {l l2 : List Item} {S : Shelf} (h : Lin l S) (hp : l.Perm l2) : Lin l2 S := by
  cases h with
  | nil => rw [List.nil_perm.1 hp]; exact .nil
  | step h1 h2 h3 h4 => exact .step (hp.symm.trans h1) h2 h3 h4
/-- those that are not done -/
def remA (L : List Item) (d : Nat) : List Item := ((List.range L.length).filter fun i => !d.testBit i).filterMap fun i => L[i]?
theorem mem_rem {L : List Item} {d : Nat} {y : Item} : y ∈ remA L d ↔ ∃ j, ∃ h : j < L.length, d.testBit j = false ∧ L[j] = y := by
  unfold remA
  rw [List.mem_filterMap]
  constructor
  · rintro ⟨j, hj, hy⟩
    rw [List.mem_filter, List.mem_range] at hj
    exact ⟨j, hj.1, by simpa using hj.2, by rw [List.getElem?_eq_getElem hj.1] at hy; exact Option.some.inj hy⟩
  · rintro ⟨j, h, hb, rfl⟩
    exact ⟨j, by rw [List.mem_filter, List.mem_range]; exact ⟨h, by simp [hb]⟩, List.getElem?_eq_getElem h⟩
theorem filter_rem {d i : Nat} (hb : d.testBit i = false) : ∀ (l : List Nat), l.Nodup → i ∈ l → (l.filter fun j => !d.testBit j).Perm (i :: l.filter fun j => !(d ||| 1 <<< i).testBit j)
  | [], _, h => absurd h (by simp)
  | a :: l, hn, h => by
    rw [List.nodup_cons] at hn
    by_cases ha : a = i
    · subst ha
      have hsame : (l.filter fun j => !(d ||| 1 <<< a).testBit j) = l.filter fun j => !d.testBit j := List.filter_congr fun x hx => by
        rw [testBit_set]
        have : x ≠ a := fun e => hn.1 (e ▸ hx)
        simp [this]
      rw [List.filter_cons_of_pos (by simp [hb]), List.filter_cons_of_neg (by rw [testBit_set]; simp), hsame]
    · have hi : i ∈ l := by
        rcases List.mem_cons.1 h with h | h
        · exact absurd h.symm ha
        · exact h
      have ih := filter_rem hb l hn.2 hi
      have he : (d ||| 1 <<< i).testBit a = d.testBit a := by rw [testBit_set]; simp [ha]
      by_cases hd : d.testBit a = true
      · rw [List.filter_cons_of_neg (by simp [hd]), List.filter_cons_of_neg (by rw [he]; simp [hd])]
        exact ih
      · rw [List.filter_cons_of_pos (by simp [hd]), List.filter_cons_of_pos (by rw [he]; simp [hd])]
        exact (ih.cons a).trans (.swap _ _ _)
theorem rem_step {L : List Item} {d i : Nat} (hi : i < L.length) (hb : d.testBit i = false) : (remA L d).Perm (L[i] :: remA L (d ||| 1 <<< i)) := by
  have h := (filter_rem hb (List.range L.length) List.nodup_range (List.mem_range.2 hi)).filterMap fun j => L[j]?
  rw [List.filterMap_cons_some (List.getElem?_eq_getElem hi)] at h
  exact h
/-- all must be done -/
def AllMust (L : List Item) (must : Nat) : Prop := ∀ i, must.testBit i = decide (i < L.length)
theorem rem_nil {L : List Item} {must d : Nat} (hm : AllMust L must) (h : d &&& must = must) : remA L d = [] := by
  rw [List.eq_nil_iff_forall_not_mem]
  intro y hy
  obtain ⟨j, hj, hb, -⟩ := mem_rem.1 hy
  have := done_must h j (by rw [hm]; simpa using hj)
  rw [this] at hb
  cases hb
theorem path_lin {L : List Item} {must d : Nat} {S : Shelf} {R : List Nat} (hm : AllMust L must) (h : Path L must d S R) : Lin (remA L d) S := by
  induction h with
  | fin h => rw [rem_nil hm h]; exact .nil
  | @step d S i R hi hf hok _ ih =>
    obtain ⟨_, hb, hfr⟩ := hf
    refine .step (rem_step hi hb) (fun y hy => ?_) hok ih
    obtain ⟨j, hj, hbj, rfl⟩ := mem_rem.1 hy
    rw [testBit_set] at hbj
    have hne : j ≠ i := fun e => by subst e; simp at hbj
    exact hfr j hj hne (by cases h : d.testBit j <;> simp_all)
theorem lin_leads {L : List Item} {must : Nat} (hm : AllMust L must) {l : List Item} {S : Shelf} (h : Lin l S) : ∀ {d}, l.Perm (remA L d) → Leads L must d S := by
  induction h with
  | nil =>
    intro d hp
    refine leads_fin (must_done fun i hi => ?_)
    rw [hm] at hi
    cases hb : d.testBit i with
    | true => rfl
    | false =>
      have : L[i]'(by simpa using hi) ∈ remA L d := mem_rem.2 ⟨i, by simpa using hi, hb, rfl⟩
      rw [List.nil_perm.1 hp] at this
      simp at this
  | @step l l' x S h1 h2 h3 _ ih =>
    intro d hp
    have hx : x ∈ remA L d := hp.mem_iff.1 (h1.mem_iff.2 (by simp))
    obtain ⟨i, hi, hb, rfl⟩ := mem_rem.1 hx
    have hp' : l'.Perm (remA L (d ||| 1 <<< i)) := (h1.symm.trans (hp.trans (rem_step hi hb))).cons_inv
    refine leads_step ⟨hi, ⟨hi, hb, fun j hj hne hbj => ?_⟩, h3, ih hp'⟩
    refine h2 _ (hp'.mem_iff.2 (mem_rem.2 ⟨j, hj, ?_, rfl⟩))
    rw [testBit_set, hbj]
    simp [hne]
theorem take_all (L : List Item) : ∀ n, n ≤ L.length → (List.range n).filterMap (fun i => L[i]?) = L.take n
  | 0, _ => by simp
  | n + 1, h => by
    rw [List.range_succ, List.filterMap_append, take_all L n (by omega), List.take_succ_eq_append_getElem (by omega)]
    simp [List.getElem?_eq_getElem (show n < L.length by omega)]
theorem rem_all (L : List Item) : remA L 0 = L := by
  unfold remA
  rw [List.filter_eq_self.2 (by simp), take_all L _ (Nat.le_refl _), List.take_length]
theorem leads_lin {L : List Item} {must : Nat} (hm : AllMust L must) (S : Shelf) : Leads L must 0 S ↔ Lin L S :=
  ⟨fun ⟨_, h⟩ => by have := path_lin hm h; rwa [rem_all] at this, fun h => lin_leads hm h (by rw [rem_all])⟩
/-- all have ended: such stories -/
theorem legalS_lin {xs : List Item} {S : Shelf} (hc : ∀ x ∈ xs, countsB x.s = true) (he : ∀ x ∈ xs, 0 ≤ x.s.en) {must : Nat} (hm : MustIs (xs.map (·.s)) must) : LegalS xs S ↔ Lin xs S := by
  have hp : picks xs = xs := by unfold picks; rw [List.filter_eq_self]; exact hc
  rw [legalS_iff (must := must) (by rw [hp]; exact hm), hp]
  refine leads_lin (fun i => ?_) S
  rw [Bool.eq_iff_iff, hm i]
  simp only [List.length_map, decide_eq_true_eq, List.getElem_map]
  exact ⟨fun ⟨h, _⟩ => h, fun h => ⟨h, he _ (List.getElem_mem h)⟩⟩
/-- a story that asks and turns one key alone -/
structure KeyI (k : ByteArray) (x : Item) : Prop where
  ok : ∀ S T : Shelf, getD' S.pairs k = getD' T.pairs k → x.ok S = x.ok T
  same : ∀ S T : Shelf, getD' S.pairs k = getD' T.pairs k → getD' (x.next S).pairs k = getD' (x.next T).pairs k
  other : ∀ (S : Shelf) o, o ≠ k → getD' (x.next S).pairs o = getD' S.pairs o
  time : x.s.bg ≤ x.s.en
  ends : 0 ≤ x.s.en
theorem Lin.entry {k : ByteArray} {l : List Item} {S : Shelf} (h : Lin l S) : ∀ {T : Shelf}, (∀ x ∈ l, KeyI k x) → getD' S.pairs k = getD' T.pairs k → Lin l T := by
  induction h with
  | nil => intro T _ _; exact .nil
  | @step l l' x S h1 h2 h3 _ ih =>
    intro T hk he
    have hx := hk x (h1.mem_iff.2 (by simp))
    exact .step h1 h2 (by rw [← hx.ok _ T he]; exact h3) (ih (fun y hy => hk y (h1.mem_iff.2 (by simp [hy]))) (hx.same _ _ he))
theorem perm_part {x : Item} {l xs ys : List Item} (h : (xs ++ ys).Perm (x :: l)) : (∃ xs', xs.Perm (x :: xs') ∧ l.Perm (xs' ++ ys)) ∨ ∃ ys', ys.Perm (x :: ys') ∧ l.Perm (xs ++ ys') := by
  have hx : x ∈ xs ++ ys := h.mem_iff.2 (by simp)
  rcases List.mem_append.1 hx with h1 | h1
  · obtain ⟨a, b, rfl⟩ := List.append_of_mem h1
    refine .inl ⟨a ++ b, List.perm_middle, ?_⟩
    have : (a ++ x :: b ++ ys).Perm (x :: (a ++ b ++ ys)) := List.perm_middle.append_right ys
    exact (h.symm.trans this).cons_inv
  · obtain ⟨a, b, rfl⟩ := List.append_of_mem h1
    refine .inr ⟨a ++ b, List.perm_middle, ?_⟩
    have : (xs ++ (a ++ x :: b)).Perm (x :: (xs ++ (a ++ b))) := by
      rw [← List.append_assoc, ← List.append_assoc]
      exact List.perm_middle
    exact (h.symm.trans this).cons_inv
theorem lin_split {a b : ByteArray} (hab : a ≠ b) {l : List Item} {S : Shelf} (h : Lin l S) : ∀ {xs ys : List Item}, (∀ x ∈ xs, KeyI a x) → (∀ y ∈ ys, KeyI b y) → (xs ++ ys).Perm l → Lin xs S ∧ Lin ys S := by
  induction h with
  | nil =>
    intro xs ys _ _ hp
    have := List.append_eq_nil_iff.1 (List.perm_nil.1 hp)
    rw [this.1, this.2]
    exact ⟨.nil, .nil⟩
  | @step l l' x S h1 h2 h3 _ ih =>
    intro xs ys hx hy hp
    rcases perm_part (hp.trans h1) with ⟨xs', p1, p2⟩ | ⟨ys', p1, p2⟩
    · have kx := hx x (p1.mem_iff.2 (by simp))
      obtain ⟨i1, i2⟩ := ih (fun z hz => hx z (p1.mem_iff.2 (by simp [hz]))) hy p2.symm
      exact ⟨.step p1 (fun z hz => h2 z (p2.mem_iff.2 (by simp [hz]))) h3 i1, i2.entry hy (kx.other S b (Ne.symm hab))⟩
    · have ky := hy x (p1.mem_iff.2 (by simp))
      obtain ⟨i1, i2⟩ := ih hx (fun z hz => hy z (p1.mem_iff.2 (by simp [hz]))) p2.symm
      exact ⟨i1.entry hx (ky.other S a hab), .step p1 (fun z hz => h2 z (p2.mem_iff.2 (by simp [hz]))) h3 i2⟩
theorem befB_iff {x y : Story} : befB x y = true ↔ 0 ≤ x.en ∧ x.en < y.bg := by simp [befB]
theorem befB_false {x y : Story} : befB x y = false ↔ ¬ (0 ≤ x.en ∧ x.en < y.bg) := by rw [← befB_iff, Bool.not_eq_true]
theorem lin_join {a b : ByteArray} (hab : a ≠ b) : ∀ (n : Nat) {xs ys : List Item} {S : Shelf}, xs.length + ys.length = n → (∀ x ∈ xs, KeyI a x) → (∀ y ∈ ys, KeyI b y) → Lin xs S → Lin ys S → Lin (xs ++ ys) S := by
  intro n
  induction n with
  | zero =>
    intro xs ys S hn _ _ _ _
    rw [List.length_eq_zero_iff.1 (show xs.length = 0 by omega), List.length_eq_zero_iff.1 (show ys.length = 0 by omega)]
    exact .nil
  | succ n ih =>
    intro xs ys S hn hx hy lx ly
    cases lx with
    | nil => exact ly
    | @step _ xs' x _ p1 q1 o1 r1 =>
      cases ly with
      | nil => rw [List.append_nil]; exact .step p1 q1 o1 r1
      | @step _ ys' y _ p2 q2 o2 r2 =>
        have kx := hx x (p1.mem_iff.2 (by simp))
        have ky := hy y (p2.mem_iff.2 (by simp))
        have n1 := p1.length_eq
        have n2 := p2.length_eq
        simp only [List.length_cons] at n1 n2
        by_cases hfx : ∀ z ∈ ys, befB z.s x.s = false
        · have key : Lin (xs' ++ ys) (x.next S) := ih (by omega) (fun z hz => hx z (p1.mem_iff.2 (by simp [hz]))) hy r1 (Lin.entry (k := b) (.step p2 q2 o2 r2) hy (kx.other S b (Ne.symm hab)).symm)
          refine .step (p1.append_right ys) (fun z hz => ?_) o1 key
          rcases List.mem_append.1 hz with h | h
          · exact q1 z h
          · exact hfx z h
        · by_cases hfy : ∀ z ∈ xs, befB z.s y.s = false
          · have key : Lin (xs ++ ys') (y.next S) := ih (by omega) hx (fun z hz => hy z (p2.mem_iff.2 (by simp [hz]))) (Lin.entry (k := a) (.step p1 q1 o1 r1) hx (ky.other S a hab).symm) r2
            have pp : (xs ++ ys).Perm (y :: (xs ++ ys')) := (p2.append_left xs).trans List.perm_middle
            refine .step pp (fun z hz => ?_) o2 key
            rcases List.mem_append.1 hz with h | h
            · exact hfy z h
            · exact q2 z h
          · exfalso
            simp only [Classical.not_forall, Bool.not_eq_false] at hfx hfy
            obtain ⟨z, hz, bz⟩ := hfx
            obtain ⟨u, hu, bu⟩ := hfy
            rw [befB_iff] at bz bu
            have hzb : y.s.bg ≤ z.s.en := by
              rcases List.mem_cons.1 (p2.mem_iff.1 hz) with rfl | h
              · exact ky.time
              · have := befB_false.1 (q2 z h)
                have := (hy z hz).ends
                omega
            have hub : x.s.bg ≤ u.s.en := by
              rcases List.mem_cons.1 (p1.mem_iff.1 hu) with rfl | h
              · exact kx.time
              · have := befB_false.1 (q1 u h)
                have := (hx u hu).ends
                omega
            omega
theorem lin_apart {a b : ByteArray} (hab : a ≠ b) {xs ys l : List Item} {S : Shelf} (hx : ∀ x ∈ xs, KeyI a x) (hy : ∀ y ∈ ys, KeyI b y) (hp : (xs ++ ys).Perm l) : Lin l S ↔ Lin xs S ∧ Lin ys S :=
  ⟨fun h => lin_split hab h hx hy hp, fun ⟨h1, h2⟩ => (lin_join hab _ rfl hx hy h1 h2).perm hp⟩
end Go.Proofs.YtamcehfcjcmpmaaDoor
/- Stories of two keys, among one another in time: what SerialApart asks. Plain facts; no program is walked. -/
namespace Go.Proofs.YtamcehfcjcmpmaaDoor
open Go.RowKit

theorem get_okV {key val vl : ByteArray} {code : Int} {fd : Bool} {bg en : Int} {S : Shelf} (h0 : key.toList.isEmpty = false) (h1 : key.size ≤ 16) (h2 : val.size ≤ 400) (he : 0 ≤ en) : (flatI 1 key val code fd vl bg en).ok S = (fd == (getD' S.pairs key).2 && vl.toList == (getD' S.pairs key).1.toList) := by
  have hg := good_flat (val := val) (.inl rfl) h0 h1 h2
  show answeredB _ [] (apA (flatC 1 key val) [] S) = _
  unfold apA
  rw [if_pos hg, if_neg (by show ¬ (1 : Int) = 7; decide)]
  simp [answeredB, flatI, doA, flatC, ans0, show ¬ en < 0 by omega]
theorem get_nextV {key val vl : ByteArray} {code : Int} {fd : Bool} {bg en : Int} {S : Shelf} : (flatI 1 key val code fd vl bg en).next S = S := by
  show apS (flatC 1 key val) [] S = _
  unfold apS
  split
  · rw [if_neg (by show ¬ (1 : Int) = 7; decide)]; rfl
  · rfl
theorem del_okV {key val vl : ByteArray} {code : Int} {fd : Bool} {bg en : Int} {S : Shelf} (h0 : key.toList.isEmpty = false) (h1 : key.size ≤ 16) (h2 : val.size ≤ 400) (he : 0 ≤ en) : (flatI 3 key val code fd vl bg en).ok S = (fd == hasK S.pairs key && vl.toList == ByteArray.empty.toList) := by
  have hg := good_flat (val := val) (.inr (.inr rfl)) h0 h1 h2
  show answeredB _ [] (apA (flatC 3 key val) [] S) = _
  unfold apA
  rw [if_pos hg, if_neg (by show ¬ (3 : Int) = 7; decide)]
  simp [answeredB, flatI, doA, flatC, ans0, show ¬ en < 0 by omega]
theorem keyI_flat {k : Int} {key val vl : ByteArray} {fd : Bool} {bg en : Int} (hk : k = 1 ∨ k = 2 ∨ k = 3) (h0 : key.toList.isEmpty = false) (h1 : key.size ≤ 16) (h2 : val.size ≤ 400) (ht : bg ≤ en) (he : 0 ≤ en) : KeyI key (flatI k key val 0 fd vl bg en) := by
  refine ⟨fun S T h => ?_, fun S T h => ?_, fun S o ho => ?_, ht, he⟩
  · rcases hk with rfl | rfl | rfl
    · rw [get_okV h0 h1 h2 he, get_okV h0 h1 h2 he, h]
    · rw [put_ok h0 h1 h2 he, put_ok h0 h1 h2 he, hasK_get, hasK_get, h]
    · rw [del_okV h0 h1 h2 he, del_okV h0 h1 h2 he, hasK_get, hasK_get, h]
  · rcases hk with rfl | rfl | rfl
    · rw [get_nextV, get_nextV, h]
    · rw [put_next h0 h1 h2, put_next h0 h1 h2, getD'_set, getD'_set, if_pos rfl, if_pos rfl]
    · rw [del_next h0 h1 h2, del_next h0 h1 h2]
      show getD' (dropK key S.pairs) key = getD' (dropK key T.pairs) key
      rw [getD'_drop_same, getD'_drop_same]
  · rcases hk with rfl | rfl | rfl
    · rw [get_nextV]
    · rw [put_next h0 h1 h2, getD'_set, if_neg ho]
    · rw [del_next h0 h1 h2]
      exact getD'_drop_other ho
/-- stories by rising beginnings -/
theorem may_sorted {xs : List Item} (h : ∀ x ∈ xs, 0 ≤ x.s.bg ∧ x.s.bg < x.s.en) (hp : xs.Pairwise fun x y => x.s.bg < y.s.bg) : MayS (stories xs) := fun i hi _ => by
  have hl : (stories xs).length = xs.length := by simp [stories]
  have hg : ∀ j (h : j < (stories xs).length), (stories xs)[j] = (xs[j]'(by omega)).s := fun j h => by simp [stories]
  have hx := h (xs[i]'(by omega)) (List.getElem_mem _)
  refine ⟨by rw [hg]; exact hx.1, fun j hj => ?_, .inr (by rw [hg]; exact hx.2)⟩
  rw [hg, hg]
  exact List.pairwise_iff_getElem.1 hp j i (by omega) (by omega) (by omega)
theorem must_bitsTo {l : List Story} (h : ∀ s ∈ l, 0 ≤ s.en) : MustIs l (bitsTo l.length) := fun i => by
  rw [bitsTo_bit, decide_eq_true_eq]
  exact ⟨fun hi => ⟨hi, h _ (List.getElem_mem hi)⟩, fun ⟨hi, _⟩ => hi⟩
/-- a story of a key, of kinds 1 to 3, with an end behind its beginning -/
structure PlI (key : ByteArray) (at' : Int) (x : Item) : Prop where
  is : ∃ k val fd vl en, x = flatI k key val 0 fd vl at' en ∧ (k = 1 ∨ k = 2 ∨ k = 3) ∧ val.size ≤ 400 ∧ at' < en
theorem PlI.flat {key : ByteArray} {at' : Int} {x : Item} (h : PlI key at' x) : ∃ k key val code fd vl bg en, x = flatI k key val code fd vl bg en := by
  obtain ⟨k, val, fd, vl, en, rfl, -⟩ := h
  exact ⟨_, _, _, _, _, _, _, _, rfl⟩
theorem PlI.keyI {key : ByteArray} {at' : Int} {x : Item} (h : PlI key at' x) (h0 : key.toList.isEmpty = false) (h1 : key.size ≤ 16) (ha : 0 ≤ at') : KeyI key x := by
  obtain ⟨k, val, fd, vl, en, rfl, hk, hv, he⟩ := h
  exact keyI_flat hk h0 h1 hv (by omega) (by omega)
theorem PlI.counts {key : ByteArray} {at' : Int} {x : Item} (h : PlI key at' x) : countsB x.s = true := by
  obtain ⟨k, val, fd, vl, en, rfl, hk, hv, he⟩ := h
  exact counts_flat (by rcases hk with rfl | rfl | rfl <;> rfl)
theorem PlI.bg {key : ByteArray} {at' : Int} {x : Item} (h : PlI key at' x) : x.s.bg = at' ∧ at' < x.s.en := by
  obtain ⟨k, val, fd, vl, en, rfl, hk, hv, he⟩ := h
  exact ⟨rfl, he⟩
/-- three lists under way: those of a key, those of another one, all -/
structure Deal (n la lb : Nat) (xs ys l : List Item) : Prop where
  lx : xs.length = min n la
  ly : ys.length = min n lb
  ax : ∀ x ∈ xs, ∃ t : Int, 0 ≤ t ∧ t < 4 * n ∧ PlI ⟨#[97]⟩ t x
  ay : ∀ y ∈ ys, ∃ t : Int, 0 ≤ t ∧ t < 4 * n ∧ PlI ⟨#[98]⟩ t y
  px : xs.Pairwise fun x y => x.s.bg < y.s.bg
  py : ys.Pairwise fun x y => x.s.bg < y.s.bg
  pl : l.Pairwise fun x y => x.s.bg < y.s.bg
  perm : (xs ++ ys).Perm l
theorem Deal.nil (la lb : Nat) : Deal 0 la lb [] [] [] := ⟨by simp, by simp, by simp, by simp, .nil, .nil, .nil, .refl _⟩
theorem Deal.bgL {n la lb : Nat} {xs ys l : List Item} (h : Deal n la lb xs ys l) : ∀ z ∈ l, z.s.bg < 4 * n := fun z hz => by
  rcases List.mem_append.1 (h.perm.mem_iff.2 hz) with h1 | h1
  · obtain ⟨t, -, h2, h3⟩ := h.ax z h1
    rw [h3.bg.1]
    exact h2
  · obtain ⟨t, -, h2, h3⟩ := h.ay z h1
    rw [h3.bg.1]
    exact h2
theorem pw_snoc {xs : List Item} {x : Item} {t : Int} (h : xs.Pairwise fun x y => x.s.bg < y.s.bg) (ht : ∀ y ∈ xs, y.s.bg < t) (hx : x.s.bg = t) : (xs ++ [x]).Pairwise fun x y => x.s.bg < y.s.bg := by
  rw [List.pairwise_append]
  refine ⟨h, List.pairwise_singleton _ _, fun y hy z hz => ?_⟩
  rw [List.mem_singleton] at hz
  subst hz
  rw [hx]
  exact ht y hy
/-- the n-th round: one of each, where there is one -/
theorem Deal.next {n la lb : Nat} {xs ys l : List Item} (h : Deal n la lb xs ys l) {ox oy : List Item} (hx : (la ≤ n ∧ ox = []) ∨ (n < la ∧ ∃ x, ox = [x] ∧ PlI ⟨#[97]⟩ (4 * n) x)) (hy : (lb ≤ n ∧ oy = []) ∨ (n < lb ∧ ∃ y, oy = [y] ∧ PlI ⟨#[98]⟩ (4 * n + 1) y)) :
    Deal (n + 1) la lb (xs ++ ox) (ys ++ oy) (l ++ ox ++ oy) := by
  have hb := h.bgL
  have bx : ∀ x ∈ xs, x.s.bg < 4 * n := fun z hz => hb z (h.perm.mem_iff.1 (by simp [hz]))
  have by' : ∀ x ∈ ys, x.s.bg < 4 * n := fun z hz => hb z (h.perm.mem_iff.1 (by simp [hz]))
  have l1 : (l ++ ox).Pairwise fun x y => x.s.bg < y.s.bg := by
    rcases hx with ⟨-, rfl⟩ | ⟨-, x, rfl, hx⟩
    · simpa using h.pl
    · exact pw_snoc h.pl hb hx.bg.1
  have l2 : ∀ z ∈ l ++ ox, z.s.bg < 4 * n + 1 := fun z hz => by
    rcases List.mem_append.1 hz with h1 | h1
    · have := hb z h1; omega
    · rcases hx with ⟨-, rfl⟩ | ⟨-, x, rfl, hx⟩
      · simp at h1
      · rw [List.mem_singleton] at h1
        subst h1
        rw [hx.bg.1]
        omega
  refine ⟨?_, ?_, ?_, ?_, ?_, ?_, ?_, ?_⟩
  · rcases hx with ⟨h1, rfl⟩ | ⟨h1, x, rfl, -⟩ <;> simp [h.lx] <;> omega
  · rcases hy with ⟨h1, rfl⟩ | ⟨h1, x, rfl, -⟩ <;> simp [h.ly] <;> omega
  · intro x hx'
    rcases List.mem_append.1 hx' with h1 | h1
    · obtain ⟨t, h2, h3, h4⟩ := h.ax x h1
      exact ⟨t, h2, by push_cast; omega, h4⟩
    · rcases hx with ⟨-, rfl⟩ | ⟨-, z, rfl, hz⟩
      · simp at h1
      · rw [List.mem_singleton] at h1
        subst h1
        exact ⟨_, by omega, by push_cast; omega, hz⟩
  · intro x hx'
    rcases List.mem_append.1 hx' with h1 | h1
    · obtain ⟨t, h2, h3, h4⟩ := h.ay x h1
      exact ⟨t, h2, by push_cast; omega, h4⟩
    · rcases hy with ⟨-, rfl⟩ | ⟨-, z, rfl, hz⟩
      · simp at h1
      · rw [List.mem_singleton] at h1
        subst h1
        exact ⟨_, by omega, by push_cast; omega, hz⟩
  · rcases hx with ⟨-, rfl⟩ | ⟨-, x, rfl, hx⟩
    · simpa using h.px
    · exact pw_snoc h.px bx hx.bg.1
  · rcases hy with ⟨-, rfl⟩ | ⟨-, y, rfl, hy⟩
    · simpa using h.py
    · exact pw_snoc h.py (fun z hz => by have := by' z hz; omega) hy.bg.1
  · rcases hy with ⟨-, rfl⟩ | ⟨-, y, rfl, hy⟩
    · simpa using l1
    · exact pw_snoc l1 l2 hy.bg.1
  · have p1 : (xs ++ ox ++ (ys ++ oy)).Perm (xs ++ ys ++ (ox ++ oy)) := by
      rw [List.append_assoc, List.append_assoc]
      refine List.Perm.append_left xs ?_
      rw [← List.append_assoc, ← List.append_assoc]
      exact List.perm_append_comm.append_right oy
    rw [List.append_assoc l]
    exact p1.trans (h.perm.append_right _)
theorem Deal.all {n la lb : Nat} {xs ys l : List Item} (h : Deal n la lb xs ys l) : ∀ z ∈ l, (∃ k key val code fd vl bg en, z = flatI k key val code fd vl bg en) ∧ countsB z.s = true ∧ 0 ≤ z.s.bg ∧ z.s.bg < z.s.en := fun z hz => by
  rcases List.mem_append.1 (h.perm.mem_iff.2 hz) with h1 | h1
  · obtain ⟨t, h2, -, h3⟩ := h.ax z h1
    exact ⟨h3.flat, h3.counts, by rw [h3.bg.1]; exact h2, by rw [h3.bg.1]; exact h3.bg.2⟩
  · obtain ⟨t, h2, -, h3⟩ := h.ay z h1
    exact ⟨h3.flat, h3.counts, by rw [h3.bg.1]; exact h2, by rw [h3.bg.1]; exact h3.bg.2⟩
theorem picks_all {xs : List Item} (h : ∀ x ∈ xs, countsB x.s = true) : picks xs = xs := by unfold picks; rw [List.filter_eq_self]; exact h
theorem lin_of_all {xs : List Item} {S : Shelf} (h : ∀ z ∈ xs, countsB z.s = true ∧ 0 ≤ z.s.bg ∧ z.s.bg < z.s.en) : LegalS xs S ↔ Lin xs S := by
  have he : ∀ x ∈ xs, 0 ≤ x.s.en := fun x hx => by have := h x hx; omega
  refine legalS_lin (fun x hx => (h x hx).1) he (must := bitsTo (xs.map (·.s)).length) (must_bitsTo fun s hs => ?_)
  obtain ⟨x, hx, rfl⟩ := List.mem_map.1 hs
  exact he x hx
theorem Deal.law {n la lb : Nat} {xs ys l : List Item} (h : Deal n la lb xs ys l) (S : Shelf) : LegalS l S ↔ LegalS xs S ∧ LegalS ys S := by
  have ha := h.all
  rw [lin_of_all fun z hz => (ha z hz).2, lin_of_all fun z hz => (ha z (h.perm.mem_iff.1 (by simp [hz]))).2, lin_of_all fun z hz => (ha z (h.perm.mem_iff.1 (by simp [hz]))).2]
  refine lin_apart (a := ⟨#[97]⟩) (b := ⟨#[98]⟩) (by decide +kernel) (fun x hx => ?_) (fun y hy => ?_) h.perm
  · obtain ⟨t, h2, -, h3⟩ := h.ax x hx
    exact h3.keyI (by decide +kernel) (by decide +kernel) h2
  · obtain ⟨t, h2, -, h3⟩ := h.ay y hy
    exact h3.keyI (by decide +kernel) (by decide +kernel) h2
end Go.Proofs.YtamcehfcjcmpmaaDoor
namespace Go.Proofs.YtamcehfcjcmpmaaDoor
open Go.RowKit

def ApartR (A : Option Addr) (c : Nat) (A' : Option Addr) (c' : Nat) : Prop := ∀ b o b' o', A = some ⟨b, o, none⟩ → A' = some ⟨b', o', none⟩ → c = 0 ∨ c' = 0 ∨ b ≠ b'
theorem ApartR.symm {A : Option Addr} {c : Nat} {A' : Option Addr} {c' : Nat} (h : ApartR A c A' c') : ApartR A' c' A c := fun b o b' o' h1 h2 => by
  rcases h b' o' b o h2 h1 with h3 | h3 | h3
  · exact .inr (.inl h3)
  · exact .inl h3
  · exact .inr (.inr fun e => h3 e.symm)
theorem rowOf_new {α : Type} {enc : α → List Value} {e : TypeId} {k : Nat} {W : World} {lo : Nat} {A : Option Addr} {c : Nat} {l : List α} (h : Own enc e k W lo A c l) {q : Nat} (hq : W.heap.size ≤ q) : some q ≠ rowOf A c := by
  intro he
  unfold rowOf at he
  split at he
  · cases he
  · rename_i hc0
    rcases h.lt with h0 | ⟨b, off, hA, -, hl⟩
    · exact hc0 h0
    · subst hA
      cases he
      exact Nat.lt_irrefl _ (Nat.lt_of_lt_of_le hl hq)
section
variable {α : Type} {enc : α → List Value} {e : TypeId} {k : Nat} {w w' : World} {lo : Nat} {A : Option Addr} {c : Nat} {l : List α} {A' : Option Addr} {c' : Nat} {l' : List α}
theorem Own.besides (h : Own enc e k w lo A c l) (h' : Own enc e k w lo A' c' l') (hap : ApartR A c A' c') (hg : w.grownBy w' (rowOf A' c')) : Own enc e k w' lo A c l := by
  obtain ⟨h1, h2, h3⟩ := h
  rcases h3 with h3 | ⟨b, off, cur, rfl, hlo, hh, hs, hc⟩
  · exact ⟨h1, h2, .inl h3⟩
  · by_cases hc0 : c = 0
    · exact ⟨h1, h2, .inl hc0⟩
    · refine ⟨h1, h2, .inr ⟨b, off, cur, rfl, hlo, ?_, hs, hc⟩⟩
      rw [hg.block b (lt_of_heap hh) ?_]
      · exact hh
      · intro he
        unfold rowOf at he
        split at he
        · cases he
        · rename_i hc1
          rcases h'.lt with h0 | ⟨b', off', hA, -, -⟩
          · exact hc1 h0
          · subst hA
            cases he
            rcases hap _ _ _ _ rfl rfl with h4 | h4 | h4
            · exact hc0 h4
            · exact hc1 h4
            · exact h4 rfl
theorem ApartR.next (hap : ApartR A c A' c') (h : Own enc e k w lo A c l) {w1 : World} (hw : w.heap.size ≤ w1.heap.size) {A2 : Option Addr} {c2 : Nat} (hloc : A2 = A' ∧ c2 = c' ∨ ∃ g, A2 = some ⟨g, 0, none⟩ ∧ w1.heap.size ≤ g) : ApartR A c A2 c2 := by
  rcases hloc with ⟨rfl, rfl⟩ | ⟨g, rfl, hg⟩
  · exact hap
  · intro b o b' o' h1 h2
    cases h2
    rcases h.lt with h0 | ⟨b2, o2, hA, -, hl⟩
    · exact .inl h0
    · rw [hA] at h1
      cases h1
      exact .inr (.inr fun e => by omega)
end
structure Own3 (w : World) (lo : Nat) (Ax : Option Addr) (cx : Nat) (X : List Story) (Ay : Option Addr) (cy : Nat) (Y : List Story) (Al : Option Addr) (cl : Nat) (L : List Story) : Prop where
  x : Own Story.enc 44 14 w lo Ax cx X
  y : Own Story.enc 44 14 w lo Ay cy Y
  l : Own Story.enc 44 14 w lo Al cl L
  xy : ApartR Ax cx Ay cy
  xl : ApartR Ax cx Al cl
  yl : ApartR Ay cy Al cl
section
variable {w : World} {lo : Nat} {Ax : Option Addr} {cx : Nat} {X : List Story} {Ay : Option Addr} {cy : Nat} {Y : List Story} {Al : Option Addr} {cl : Nat} {L : List Story}
theorem Own3.below (h : Own3 w lo Ax cx X Ay cy Y Al cl L) {w' : World} (hb : Below w.heap.size w w') : Own3 w' lo Ax cx X Ay cy Y Al cl L := ⟨h.x.below hb, h.y.below hb, h.l.below hb, h.xy, h.xl, h.yl⟩
theorem Own3.alloc (h : Own3 w lo Ax cx X Ay cy Y Al cl L) (o : Obj) : Own3 (w.alloc o) lo Ax cx X Ay cy Y Al cl L := ⟨h.x.alloc o, h.y.alloc o, h.l.alloc o, h.xy, h.xl, h.yl⟩
theorem Own3.pushX (h : Own3 w lo Ax cx X Ay cy Y Al cl L) {w' : World} {A' : Option Addr} {c' : Nat} {X' : List Story} (ho : Own Story.enc 44 14 w' lo A' c' X') (hg : w.grownBy w' (rowOf Ax cx)) (hloc : A' = Ax ∧ c' = cx ∨ ∃ g, A' = some ⟨g, 0, none⟩ ∧ w.heap.size ≤ g) : Own3 w' lo A' c' X' Ay cy Y Al cl L :=
  ⟨ho, h.y.besides h.x h.xy.symm hg, h.l.besides h.x h.xl.symm hg, (h.xy.symm.next h.y (Nat.le_refl _) hloc).symm, (h.xl.symm.next h.l (Nat.le_refl _) hloc).symm, h.yl⟩
theorem Own3.pushY (h : Own3 w lo Ax cx X Ay cy Y Al cl L) {w' : World} {A' : Option Addr} {c' : Nat} {Y' : List Story} (ho : Own Story.enc 44 14 w' lo A' c' Y') (hg : w.grownBy w' (rowOf Ay cy)) (hloc : A' = Ay ∧ c' = cy ∨ ∃ g, A' = some ⟨g, 0, none⟩ ∧ w.heap.size ≤ g) : Own3 w' lo Ax cx X A' c' Y' Al cl L :=
  ⟨h.x.besides h.y h.xy hg, ho, h.l.besides h.y h.yl.symm hg, h.xy.next h.x (Nat.le_refl _) hloc, h.xl, (h.yl.symm.next h.l (Nat.le_refl _) hloc).symm⟩
theorem Own3.pushL (h : Own3 w lo Ax cx X Ay cy Y Al cl L) {w' : World} {A' : Option Addr} {c' : Nat} {L' : List Story} (ho : Own Story.enc 44 14 w' lo A' c' L') (hg : w.grownBy w' (rowOf Al cl)) (hloc : A' = Al ∧ c' = cl ∨ ∃ g, A' = some ⟨g, 0, none⟩ ∧ w.heap.size ≤ g) : Own3 w' lo Ax cx X Ay cy Y A' c' L' :=
  ⟨h.x.besides h.l h.xl hg, h.y.besides h.l h.yl hg, ho, h.xy, h.xl.next h.x (Nat.le_refl _) hloc, h.yl.next h.y (Nat.le_refl _) hloc⟩
end
/-- Legal of stories that rise in time -/
theorem legal_rise {xs : List Item} (ha : ∀ z ∈ xs, (∃ k key val code fd vl bg en, z = flatI k key val code fd vl bg en) ∧ countsB z.s = true ∧ 0 ≤ z.s.bg ∧ z.s.bg < z.s.en) (hp : xs.Pairwise fun x y => x.s.bg < y.s.bg) (hl : xs.length ≤ 12) (A : Option Addr) (c : Nat) (W : World) (h : Arr Story.enc 14 W W.heap.size A (stories xs)) (hc : xs.length ≤ c) (hm : c ≤ 9223372036854775807) (htab : Tab W.heap.size W) :
    Calls Tryd.prog 16 #[.agg #[.slice none 0 0, .slice none 0 0], .slice A (stories xs).length c] W fun e w' => ∃ r : Bool, e = .returned (.tuple #[.bool r, .int .i64 0]) ∧ Below W.heap.size W w' ∧ (r = true ↔ LegalS xs ⟨[], []⟩) := by
  have he : (stories xs).length = xs.length := by simp [stories]
  have := legal_any xs A c ⟨[], []⟩ none 0 none 0 W (flatI_sts (fun x hx => (ha x hx).1) h hc hm) (by omega) (shIn_nil W _) small_nil htab
  rw [he]
  refine this.mono ?_
  rintro e w' ⟨hb, r, code, rfl, -, -, h3⟩
  obtain ⟨rfl, h4⟩ := h3 ⟨rfl, may_sorted (fun x hx => (ha x hx).2.2) hp⟩ (Nat.le_trans (picks_len xs) hl)
  exact ⟨r, rfl, hb, h4⟩
end Go.Proofs.YtamcehfcjcmpmaaDoor
