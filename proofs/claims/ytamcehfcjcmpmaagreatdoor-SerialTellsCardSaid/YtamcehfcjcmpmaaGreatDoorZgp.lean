/- (*fuseeref25.search).goOn: what a call of it finds and leaves. No program is walked. -/
import Derived.Test.YtamcehfcjcmpmaaGreatDoorZsb
import Derived.Test.YtamcehfcjcmpmaaGreatDoorOldX
namespace Go.Proofs.YtamcehfcjcmpmaaGreatDoor
open Go.RowKit

/-- what a call of goOn finds -/
structure GoPre (lo p : Nat) (xs : List Item) (must : Nat) (A : Option Addr) (c : Nat) (PL : Option Addr) (pl : Nat) (d : Nat) (S : Shelf) (PA : Option Addr) (pc : Nat) (QA : Option Addr) (qc : Nat) (ds : List Bool) (D : Option Addr) (dc : Nat) (row : List Nat) (RA : Option Addr) (rc : Nat) (left : Nat) (w : World) : Prop where
  box : w.heap[p]? = some (.cells #[.slice A xs.length c, .slice PL (places xs).length pl, .int .i64 (left : Int)] 62 (0, 0))
  lop : lo ≤ p
  sts : StsRaw w lo A c xs
  slim : ∀ x ∈ xs, Slim x
  at' : ArrX numE 1 p p w PL (places xs)
  atc : (places xs).length ≤ pl ∧ pl ≤ 9223372036854775807
  sh : ShX p p w PA pc QA qc S
  small : Small S (cntD (picks xs).length d)
  done : ArrX bit 1 p p w D ds
  isd : DoneIs (picks xs) d ds
  dcap : ds.length ≤ dc ∧ dc ≤ 9223372036854775807
  rows : ArrX numE 1 p p w RA row
  rcap : row.length ≤ rc ∧ rc ≤ 9223372036854775807
  rowl : row.length ≤ cntD (picks xs).length d
  left : left ≤ 200000
  mus : MustIs ((picks xs).map (·.s)) must
  dbit : ∀ i, d.testBit i = true → i < (picks xs).length
  len : (picks xs).length ≤ 12
  xl : xs.length ≤ 16
  self : ∀ x ∈ picks xs, befB x.s x.s = false
/-- what it leaves -/
def GivesGo (lo p : Nat) (xs : List Item) (must : Nat) (A : Option Addr) (c : Nat) (PL : Option Addr) (pl : Nat) (d : Nat) (S : Shelf) (row : List Nat) (left : Nat) (w : World) (e : Ending) (w' : World) : Prop :=
  Old2 lo p p w w' ∧ ∃ (left' : Nat) (r : List Nat) (R : Option Addr) (rc : Nat) (ok : Bool), e = .returned (.tuple #[.slice R r.length rc, .bool ok]) ∧ left' ≤ left ∧ w'.heap[p]? = some (.cells #[.slice A xs.length c, .slice PL (places xs).length pl, .int .i64 (left' : Int)] 62 (0, 0)) ∧
    ArrX numE 1 p p w' R r ∧ r.length ≤ rc ∧ rc ≤ 9223372036854775807 ∧ r.length ≤ 12 ∧ (0 < left' → (ok = true → ∃ T, Least (picks xs) must d S T ∧ r = row ++ told xs T) ∧ (ok = false → ¬ Leads (picks xs) must d S ∧ r = []))
theorem keepB {W W' : World} {p : Nat} {v0 v1 v2 : Value} (hb : Below W.heap.size W W') (hp : p < W.heap.size) (h : W.cell? ⟨p, 0, none⟩ = some v0 ∧ W.cell? ⟨p, 1, none⟩ = some v1 ∧ W.cell? ⟨p, 2, none⟩ = some v2) : W'.cell? ⟨p, 0, none⟩ = some v0 ∧ W'.cell? ⟨p, 1, none⟩ = some v1 ∧ W'.cell? ⟨p, 2, none⟩ = some v2 :=
  ⟨(hb.cell (p := ⟨p, 0, none⟩) hp).trans h.1, (hb.cell (p := ⟨p, 1, none⟩) hp).trans h.2.1, (hb.cell (p := ⟨p, 2, none⟩) hp).trans h.2.2⟩
/-- texts do not lie in the search's own block -/
theorem ArrX.of_str {α : Type} {enc : α → List Value} {k p : Nat} {w : World} {A : Option Addr} {l : List α} (h : Arr enc k w w.heap.size A l) (hs : ∀ x, ∃ s, (enc x)[0]? = some (.string s)) {v0 v1 : Value} {m : Int} {e : TypeId} (hp : w.heap[p]? = some (.cells #[v0, v1, .int .i64 m] e (0, 0))) (h0 : ∀ s, v0 ≠ .string s) (h1 : ∀ s, v1 ≠ .string s) : ArrX enc k p p w A l := by
  rcases h with h | ⟨b, off, hA, hB, hc⟩
  · exact .inl h
  · by_cases hl : l = []
    · exact .inl hl
    · have hpos : 0 < l.length := List.length_pos_iff.2 hl
      have hne : b ≠ p := by
        rintro rfl
        obtain ⟨s, hs0⟩ := hs l[0]
        have h2 := hc 0 hpos 0 _ hs0
        simp only [Nat.zero_mul, Nat.add_zero] at h2
        rw [cell_of_row w b off _ _ _ hp] at h2
        match off, h2 with
        | 0, h2 => exact h0 s (by simpa using h2)
        | 1, h2 => exact h1 s (by simpa using h2)
        | 2, h2 => simp at h2
        | n + 3, h2 => simp at h2
      exact .inr ⟨b, off, hA, ⟨hB, hne, hne⟩, hc⟩
theorem refap_item (S : Shelf) (PA : Option Addr) (pc : Nat) (QA : Option Addr) (qc : Nat) (cl : Call0) (g : List Call0) (w : World) (h : ShIn w w.heap.size PA pc QA qc S) (hp : S.pairs.length ≤ 80000) (hq : S.queue.length ≤ 80000) (hc : CallIn w w.heap.size cl g) (hel : ∀ x ∈ g, ∃ g', CallIn w w.heap.size x g') :
    Calls Tryz.prog 30 #[.agg #[.slice PA S.pairs.length pc, .slice QA S.queue.length qc], .agg #[.int .i64 cl.kind, .string cl.key, .string cl.val, .string cl.to, .slice cl.gA cl.gn cl.gc]] w (GivesRY (apS cl g S) (apA cl g S) w) := by
  obtain ⟨kd, key, val, to', gA, gn, gc⟩ := cl
  have hg := hc.len
  simp only at hg
  subst hg
  exact refap_any S PA pc QA qc kd key val to' gA gc g w h hp hq hc hel
/-- the second loop of goOn, as far as it came -/
structure GoInv (lo p : Nat) (xs : List Item) (must : Nat) (A : Option Addr) (c : Nat) (PL : Option Addr) (pl : Nat) (d : Nat) (S : Shelf) (PA : Option Addr) (pc : Nat) (QA : Option Addr) (qc : Nat) (left : Nat) (w : World) (k m : Nat) (wr : World) : Prop where
  box : wr.heap[p]? = some (.cells #[.slice A xs.length c, .slice PL (places xs).length pl, .int .i64 (m : Int)] 62 (0, 0))
  le : m ≤ left
  old : Old2 lo p p w wr
  sh : wr.heap[w.heap.size]? = some (.cells #[.slice PA S.pairs.length pc, .slice QA S.queue.length qc] 25 (0, 0))
  no : 0 < m → ∀ j, j < k → ¬ LeadsBy (picks xs) must d S j
theorem GoInv.skip {lo p : Nat} {xs : List Item} {must : Nat} {A : Option Addr} {c : Nat} {PL : Option Addr} {pl d : Nat} {S : Shelf} {PA : Option Addr} {pc : Nat} {QA : Option Addr} {qc left : Nat} {w : World} {k m : Nat} {wr wr' : World} (h : GoInv lo p xs must A c PL pl d S PA pc QA qc left w k m wr) (hb : Below wr.heap.size wr wr') (hlo : lo ≤ wr.heap.size) (hno : 0 < m → ¬ LeadsBy (picks xs) must d S k) : GoInv lo p xs must A c PL pl d S PA pc QA qc left w (k + 1) m wr' :=
  ⟨(hb.block _ (lt_of_heap h.box)).trans h.box, h.le, h.old.more hb hlo, (hb.block _ (lt_of_heap h.sh)).trans h.sh, fun hm j hj => by
    rcases (by omega : j < k ∨ j = k) with h1 | rfl
    · exact h.no hm j h1
    · exact hno hm⟩
theorem GoInv.dec {lo p : Nat} {xs : List Item} {must : Nat} {A : Option Addr} {c : Nat} {PL : Option Addr} {pl d : Nat} {S : Shelf} {PA : Option Addr} {pc : Nat} {QA : Option Addr} {qc left : Nat} {w : World} {k m : Nat} {wr wF : World} (h : GoInv lo p xs must A c PL pl d S PA pc QA qc left w k m wr) (hb : Below wr.heap.size wr wF) (hlo : lo ≤ wr.heap.size) (hlp : lo ≤ p) (hne : w.heap.size ≠ p) (hm : 0 < m) :
    GoInv lo p xs must A c PL pl d S PA pc QA qc left w k (m - 1) (wF.setCell ⟨p, 2, none⟩ (.int .i64 ((m : Int) - 1))) := by
  have e : ((m : Int) - 1) = ((m - 1 : Nat) : Int) := by omega
  rw [e]
  refine ⟨heap_setCell_same _ p 2 _ _ (.int .i64 ((m - 1 : Nat) : Int)) ((hb.block _ (lt_of_heap h.box)).trans h.box), by have := h.le; omega, (h.old.more hb hlo).setP hlp _ _, ?_, fun _ => h.no hm⟩
  exact (Below.heap_setCell _ _ _ _ hne).trans ((hb.block _ (lt_of_heap h.sh)).trans h.sh)
/-- all that must be done is done, of the first k -/
def AllTo (L : List Item) (d k : Nat) : Prop := ∀ i (h : i < L.length), i < k → d.testBit i = true ∨ L[i].s.en < 0
theorem allTo_iff {L : List Item} {d must : Nat} (hm : MustIs (L.map (·.s)) must) : AllTo L d L.length ↔ d &&& must = must := by
  constructor
  · intro h
    refine must_done fun i hi => ?_
    obtain ⟨h1, h2⟩ := (hm i).1 hi
    simp only [List.length_map] at h1
    simp only [List.getElem_map] at h2
    rcases h i h1 h1 with h3 | h3
    · exact h3
    · omega
  · intro h i hi _
    by_cases he : L[i].s.en < 0
    · exact .inr he
    · exact .inl (done_must h i ((hm i).2 ⟨by simpa using hi, by simp only [List.getElem_map]; omega⟩))
theorem StsRaw.below {w w' : World} {B : Nat} {A : Option Addr} {c : Nat} {xs : List Item} (h : StsRaw w B A c xs) (hb : Below B w w') : StsRaw w' B A c xs :=
  ⟨h.arr.below hb, fun x hx => (h.each x hx).below hb, h.cap, h.max⟩
/-- what a call of itself finds -/
theorem GoPre.next {lo p : Nat} {xs : List Item} {must : Nat} {A : Option Addr} {c : Nat} {PL : Option Addr} {pl d : Nat} {S : Shelf} {PA : Option Addr} {pc : Nat} {QA : Option Addr} {qc : Nat} {ds : List Bool} {D : Option Addr} {dc : Nat} {row : List Nat} {RA : Option Addr} {rc left : Nat} {w : World} (h : GoPre lo p xs must A c PL pl d S PA pc QA qc ds D dc row RA rc left w)
    {k m : Nat} {w7 W : World} (hi : GoInv lo p xs must A c PL pl d S PA pc QA qc left w k m w7) (hb : Below w7.heap.size w7 W) (hlo : lo ≤ w7.heap.size) (hf : freeAt (picks xs) d k) {x : Item} (hx : ∃ hk : k < (picks xs).length, x = (picks xs)[k])
    {PX QX : Option Addr} {px qx : Nat} (hsh : ShX p p W PX px QX qx (apS x.s.c x.g S)) {D' : Option Addr} {dc' : Nat} (hd : ArrX bit 1 p p W D' (ds.set k true)) (hdc : ds.length ≤ dc' ∧ dc' ≤ 9223372036854775807) {mk : Nat} {R' : Option Addr} {rc' : Nat} (hr : ArrX numE 1 p p W R' (row ++ [mk])) (hrc : (row ++ [mk]).length ≤ rc' ∧ rc' ≤ 9223372036854775807) :
    GoPre lo p xs must A c PL pl (d ||| 1 <<< k) (apS x.s.c x.g S) PX px QX qx (ds.set k true) D' dc' (row ++ [mk]) R' rc' m W := by
  obtain ⟨hk, rfl⟩ := hx
  have O := hi.old.more hb hlo
  have hc : cntD (picks xs).length (d ||| 1 <<< k) = cntD (picks xs).length d + 1 := cntD_set hk hf.2.1
  refine ⟨(hb.block _ (lt_of_heap hi.box)).trans hi.box, h.lop, h.sts.below O.below, h.slim, h.at'.old O, h.atc, hsh, by rw [hc]; exact h.small.next, hd, h.isd.set hk, by rw [List.length_set]; exact hdc, hr, hrc, ?_, Nat.le_trans hi.le h.left, h.mus, fun i hi' => ?_, h.len, h.xl, h.self⟩
  · rw [hc, List.length_append]
    have := h.rowl
    simp only [List.length_cons, List.length_nil]
    omega
  · rw [testBit_set] at hi'
    rcases Bool.or_eq_true _ _ ▸ hi' with h1 | h1
    · exact h.dbit i h1
    · have := of_decide_eq_true h1
      omega
theorem GoPre.less {lo p : Nat} {xs : List Item} {must : Nat} {A : Option Addr} {c : Nat} {PL : Option Addr} {pl d : Nat} {S : Shelf} {PA : Option Addr} {pc : Nat} {QA : Option Addr} {qc : Nat} {ds : List Bool} {D : Option Addr} {dc : Nat} {row : List Nat} {RA : Option Addr} {rc left : Nat} {w : World} (_h : GoPre lo p xs must A c PL pl d S PA pc QA qc ds D dc row RA rc left w)
    {k : Nat} (hf : freeAt (picks xs) d k) : (picks xs).length - cntD (picks xs).length (d ||| 1 <<< k) < (picks xs).length - cntD (picks xs).length d := by
  obtain ⟨hk, hb, -⟩ := hf
  have hc : cntD (picks xs).length (d ||| 1 <<< k) = cntD (picks xs).length d + 1 := cntD_set hk hb
  have := cntD_le (picks xs).length (d ||| 1 <<< k)
  omega
/-- the call of itself found no row: on with the next -/
theorem GoInv.fail {lo p : Nat} {xs : List Item} {must : Nat} {A : Option Addr} {c : Nat} {PL : Option Addr} {pl d : Nat} {S : Shelf} {PA : Option Addr} {pc : Nat} {QA : Option Addr} {qc left : Nat} {w : World} {k m : Nat} {w7 W wR : World} (h : GoInv lo p xs must A c PL pl d S PA pc QA qc left w k m w7) (hb : Below w7.heap.size w7 W) (hlo : lo ≤ w7.heap.size) (hne : w.heap.size ≠ p)
    {left' : Nat} (hl : left' ≤ m) (hO : Old2 lo p p W wR) (hbox : wR.heap[p]? = some (.cells #[.slice A xs.length c, .slice PL (places xs).length pl, .int .i64 (left' : Int)] 62 (0, 0)))
    {x : Item} (hx : ∃ hk : k < (picks xs).length, x = (picks xs)[k]) (hno : 0 < left' → ¬ Leads (picks xs) must (d ||| 1 <<< k) (apS x.s.c x.g S)) : GoInv lo p xs must A c PL pl d S PA pc QA qc left w (k + 1) left' wR := by
  obtain ⟨hk, rfl⟩ := hx
  have hs := (hb.block _ (lt_of_heap h.sh)).trans h.sh
  refine ⟨hbox, Nat.le_trans hl h.le, (h.old.more hb hlo).trans hO, (hO.keep _ (lt_of_heap hs) hne hne).trans hs, fun hm j hj => ?_⟩
  rcases (by omega : j < k ∨ j = k) with h1 | rfl
  · exact h.no (by omega) j h1
  · rintro ⟨_, _, _, h4⟩
    exact hno hm h4
/-- the call of itself found a row -/
theorem GoInv.found {lo p : Nat} {xs : List Item} {must : Nat} {A : Option Addr} {c : Nat} {PL : Option Addr} {pl d : Nat} {S : Shelf} {PA : Option Addr} {pc : Nat} {QA : Option Addr} {qc left : Nat} {w : World} {k m : Nat} {w7 : World} (h : GoInv lo p xs must A c PL pl d S PA pc QA qc left w k m w7) (hm : 0 < m) (hf : freeAt (picks xs) d k)
    {x : Item} (hx : ∃ hk : k < (picks xs).length, x = (picks xs)[k]) (hok : x.ok S = true) (hnf : ¬ d &&& must = must) {row r : List Nat} {mk : Nat} (hmk : mk = (places xs).getD k 0) (hT : ∃ T, Least (picks xs) must (d ||| 1 <<< k) (apS x.s.c x.g S) T ∧ r = (row ++ [mk]) ++ told xs T) : ∃ T, Least (picks xs) must d S T ∧ r = row ++ told xs T := by
  obtain ⟨hk, rfl⟩ := hx
  obtain ⟨T, h1, h2⟩ := hT
  refine ⟨k :: T, .step hk hnf (fun j hj => h.no hm j hj) hf hok h1, ?_⟩
  rw [h2, hmk, List.append_assoc]
  rfl
end Go.Proofs.YtamcehfcjcmpmaaGreatDoor
