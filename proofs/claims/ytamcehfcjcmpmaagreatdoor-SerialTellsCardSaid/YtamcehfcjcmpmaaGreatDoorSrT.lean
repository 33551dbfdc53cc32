/- Two stories; stories of calls without a group. Plain facts; no program is walked. -/
import Derived.Test.YtamcehfcjcmpmaaGreatDoorMayI
import Derived.Test.YtamcehfcjcmpmaaGreatDoorApp
import Derived.Test.YtamcehfcjcmpmaaGreatDoorFro
import Derived.Test.YtamcehfcjcmpmaaGreatDoorFr
/- ideal.May: whether a store's keys rise. -/
namespace Go.Proofs.YtamcehfcjcmpmaaGreatDoor
open Go.RowKit

end Go.Proofs.YtamcehfcjcmpmaaGreatDoor
/- serial.Legal, for whatever stories lie in memory. -/
namespace Go.Proofs.YtamcehfcjcmpmaaGreatDoor
open Go.RowKit

def stories (xs : List Item) : List Story := xs.map (·.s)
/-- those that a row may have -/
def picks (xs : List Item) : List Item := xs.filter fun x => countsB x.s
theorem pick_picks (xs : List Item) : pick (stories xs) (stories xs).length = (picks xs).map (·.s) := by
  unfold pick picks stories
  rw [List.take_length, List.filter_map]
  rfl
theorem picks_mem {xs : List Item} {x : Item} (h : x ∈ picks xs) : x ∈ xs := (List.mem_filter.1 h).1
theorem picks_len (xs : List Item) : (picks xs).length ≤ xs.length := List.length_filter_le _ _
/-- the stories lie in memory -/
structure StsIn (w : World) (B : Nat) (A : Option Addr) (c : Nat) (xs : List Item) : Prop where
  arr : Arr Story.enc 14 w B A (stories xs)
  st : ∀ x ∈ xs, StIn w B x.s
  it : ∀ x ∈ xs, ItemIn w B x
  cap : xs.length ≤ c
  max : c ≤ 9223372036854775807
theorem StsIn.below {w w' : World} {B : Nat} {A : Option Addr} {c : Nat} {xs : List Item} (h : StsIn w B A c xs) (hb : Below B w w') : StsIn w' B A c xs :=
  ⟨h.arr.below hb, fun x hx => (h.st x hx).below hb, fun x hx => (h.it x hx).below hb, h.cap, h.max⟩
theorem StsIn.more {w : World} {B B' : Nat} {A : Option Addr} {c : Nat} {xs : List Item} (h : StsIn w B A c xs) (hB : B ≤ B') : StsIn w B' A c xs :=
  ⟨h.arr.more hB, fun x hx => (h.st x hx).more hB, fun x hx => (h.it x hx).more hB, h.cap, h.max⟩
theorem StsIn.up {w w' : World} {A : Option Addr} {c : Nat} {xs : List Item} (h : StsIn w w.heap.size A c xs) (hb : Below w.heap.size w w') : StsIn w' w'.heap.size A c xs := (h.below hb).more hb.size
theorem Tab.up {w w' : World} (h : Tab w.heap.size w) (hb : Below w.heap.size w w') : Tab w'.heap.size w' := fun w2 h2 => h w2 (hb.trans (h2.mono hb.size))
/-- what begun has made is a search that has tried nothing -/
theorem BInv.srchAt {w : World} {xs : List Item} {w' : World} {A' : Option Addr} {c' : Nat} (h : BInv w (stories xs) (stories xs).length w' A' c') : ∃ A c must, MustIs ((picks xs).map (·.s)) must ∧ (picks xs).length ≤ c ∧ c ≤ 9223372036854775807 ∧ SrchAt w.heap.size (w.heap.size + 1) w.heap.size (w.heap.size + 1) (picks xs) must A c w' [] (fun _ _ => False) ∧
    w'.heap[w.heap.size + 1]? = some (.cells #[.slice A (picks xs).length c, .int .u64 (must : Int), .slice none 0 0, .map (some w.heap.size)] 70 (0, 0)) := by
  obtain ⟨⟨A, c, must, h1, h2, h3⟩, hm, -, hb, hz⟩ := h
  have h1r := h1.row
  rw [pick_picks] at h1r h2 h3
  rw [List.length_map] at h1r
  have hl := h3.len
  rw [List.length_map] at hl
  refine ⟨A, c, must, h2, hl, h3.max, ⟨⟨none, 0, h1r, Own.none_, by simp [rowOf], lt_of_heap h1r⟩, ⟨#[], 0, hm, CMS.nil⟩, ArrS.of_own Story.enc_len h3 (by decide) (fun cur h => by rw [h1r] at h; cases h) (fun cur h => by rw [hm] at h; cases h), by omega, by omega⟩, h1r⟩
theorem cntD_zero (n : Nat) : cntD n 0 = 0 := by simp [cntD]
/-- stories that have a row, from a store -/
def LegalS (xs : List Item) (S : Shelf) : Prop := ∀ must, MustIs ((picks xs).map (·.s)) must → Leads (picks xs) must 0 S
theorem must_uniq {l : List Story} {a b : Nat} (ha : MustIs l a) (hb : MustIs l b) : a = b := by
  apply Nat.eq_of_testBit_eq
  intro i
  cases h1 : a.testBit i <;> cases h2 : b.testBit i
  · rfl
  · have := (ha i).2 ((hb i).1 h2); rw [h1] at this; cases this
  · have := (hb i).2 ((ha i).1 h1); rw [h2] at this; cases this
  · rfl
theorem must_mbit {L : List Item} {m : Nat} (h : MustIs (L.map (·.s)) m) (i : Nat) (hi : m.testBit i = true) : i < L.length := by
  obtain ⟨h1, _⟩ := (h i).1 hi
  simpa using h1
/-- what Legal says -/
def GivesLegal (xs : List Item) (S : Shelf) (w : World) (e : Ending) (w' : World) : Prop :=
  Below w.heap.size w w' ∧ ∃ r code, e = .returned (.tuple #[.bool r, .int .i64 code]) ∧
    (¬ (mayB S.pairs = true ∧ MayS (stories xs)) → r = false ∧ code = 1) ∧ (mayB S.pairs = true ∧ MayS (stories xs) → 12 < (picks xs).length → r = false ∧ code = 11) ∧ (mayB S.pairs = true ∧ MayS (stories xs) → (picks xs).length ≤ 12 → code = 0 ∧ (r = true ↔ LegalS xs S))
/-- a call of from as the first one -/
theorem from_first {xs : List Item} {S : Shelf} {PA : Option Addr} {pc : Nat} {QA : Option Addr} {qc : Nat} {w w1 : World} {A' : Option Addr} {c' : Nat} (hB : BInv w (stories xs) (stories xs).length w1 A' c') (hIt : ∀ x ∈ xs, ItemIn w w.heap.size x) (hsh : ShIn w w.heap.size PA pc QA qc S) (hsm : Small S 0) (htab : Tab w.heap.size w) (hlen : (picks xs).length ≤ 12) :
    ∃ A c must, MustIs ((picks xs).map (·.s)) must ∧ w1.heap[w.heap.size + 1]? = some (.cells #[.slice A (picks xs).length c, .int .u64 (must : Int), .slice none 0 0, .map (some w.heap.size)] 70 (0, 0)) ∧
    ∀ W, Below w1.heap.size w1 W → Calls Tryz.prog 25 #[.pointer (some ⟨w.heap.size + 1, 0, none⟩), .int .u64 0, .agg #[.slice PA S.pairs.length pc, .slice QA S.queue.length qc]] W (GivesFrom w.heap.size (w.heap.size + 1) w.heap.size (w.heap.size + 1) (picks xs) must A c 0 S [] (fun _ _ => False) W) := by
  obtain ⟨A, c, must, hmu, hc, hm, hs, hrow⟩ := hB.srchAt
  refine ⟨A, c, must, hmu, hrow, fun W hW => ?_⟩
  have hz := hB.size
  have hbW : Below w.heap.size w W := hB.below.trans (hW.mono (by omega))
  have h := from_any w.heap.size (w.heap.size + 1) w.heap.size (w.heap.size + 1) (picks xs) must A c ((picks xs).length - cntD (picks xs).length 0) 0 S PA pc QA qc [] (fun _ _ => False) W rfl
    ⟨hs.below hW, fun x hx => (hIt x (picks_mem hx)).below hbW, ShS.of_in (hsh.below hbW), by rw [cntD_zero]; exact hsm, fun _ _ h => h.elim, htab.go hbW, fun i hi => by simp at hi, must_mbit hmu, by simp, hlen, hc, hm⟩
  exact h
set_option maxHeartbeats 4000000 in
set_option maxRecDepth 100000 in
theorem legal_any (xs : List Item) (A : Option Addr) (c : Nat) (S : Shelf) (PA : Option Addr) (pc : Nat) (QA : Option Addr) (qc : Nat) (w : World) (h : StsIn w w.heap.size A c xs) (hl : xs.length ≤ 60) (hsh : ShIn w w.heap.size PA pc QA qc S) (hsm : Small S 0) (htab : Tab w.heap.size w) :
    Calls Tryz.prog 9 #[.agg #[.slice PA S.pairs.length pc, .slice QA S.queue.length qc], .slice A xs.length c] w (GivesLegal xs S w) := by
  have H := hid h
  have HSH := hid hsh
  have HSM := hid hsm
  have HT := hid htab
  have HL := hid hl
  clear h hsh hsm htab hl
  have hlm : (stories xs).length = xs.length := by simp [stories]
  have T9 : ∀ W, Below w.heap.size w W → Calls Tryz.prog 22 #[.agg #[.slice PA S.pairs.length pc, .slice QA S.queue.length qc]] W fun e w' => e = .returned (.bool (mayB S.pairs)) ∧ Below W.heap.size W w' := fun W hW => may_any S PA pc QA S.queue.length qc W ((HSH.out.pairs.below hW).more hW.size) HSH.out.plen HSH.out.pmax
  have T28 : ∀ W, Below w.heap.size w W → Calls Tryz.prog 23 #[.slice A xs.length c] W (GivesMay (stories xs) W) := fun W hW => by
    have := maySt_any (stories xs) A c W ((H.out.up hW).arr) (by rw [hlm]; exact H.out.cap) H.out.max
    rw [hlm] at this
    exact this
  have T29 : ∀ W, Below w.heap.size w W → Calls Tryz.prog 24 #[.slice A xs.length c] W (GivesB (stories xs) W) := fun W hW => by
    have := begun_any (stories xs) A c W ((H.out.up hW).arr) (fun s hs => by
      obtain ⟨x, hx, rfl⟩ := List.mem_map.1 hs
      exact (H.out.up hW).st x hx) (by rw [hlm]; exact H.out.cap) H.out.max (by rw [hlm]; exact HL.out)
    rw [hlm] at this
    exact this
  have HLM := hid hlm
  clear hlm
  by_cases h1 : mayB S.pairs = true
  · rw [h1] at T9
    have H1 := hid h1
    clear h1
    by_cases h2 : MayS (stories xs)
    · have T28' : ∀ W, Below w.heap.size w W → Calls Tryz.prog 23 #[.slice A xs.length c] W (fun e w' => e = .returned (.bool true) ∧ Below W.heap.size W w') := fun W hW => (T28 W hW).mono fun e w' ⟨r, he, hr, hb⟩ => ⟨by rw [he, hr.2 h2], hb⟩
      have H2 := hid h2
      clear h2 T28
      go_enter Tryz.func9, Tryz.ntmps9
      go_upto_region 4 with (first | (go_at_call 22; refine (T9 _ (by repeat (first | exact Below.refl _ _ | assumption | refine Below.drew ?_ | refine below_drewN ?_ _ | refine Below.alloc ?_ (by first | omega | (simp; done) | (simp; omega)) _ | refine Below.setCell ?_ (by first | omega | (simp; done) | (simp; omega)) _))).mono ?_; rintro e w1 ⟨rfl, hb1⟩; have B1 : Below w.heap.size w w1 := Below.trans (by repeat (first | exact Below.refl _ _ | assumption | refine Below.drew ?_ | refine below_drewN ?_ _ | refine Below.alloc ?_ (by first | omega | (simp; done) | (simp; omega)) _ | refine Below.setCell ?_ (by first | omega | (simp; done) | (simp; omega)) _)) (hb1.mono (by first | omega | (simp; done) | (simp; omega)))) | (go_at_call 23; refine (T28' _ B1).mono ?_; rintro e w2 ⟨rfl, hb2⟩; have B2 : Below w.heap.size w w2 := B1.trans (hb2.mono B1.size)) | (go_at_call 24; refine (T29 _ B2).mono ?_; rintro e w3 ⟨A3, c3, rfl, hB3⟩))
      have hx1 : w1.heap[w.heap.size]? = some (.cells #[.slice PA S.pairs.length pc, .slice QA S.queue.length qc] 25 (0, 0)) := (hb1.block _ (by simp)).trans ((heap_alloc_if _ _ _).trans (if_pos rfl))
      have z1 : w.heap.size < w1.heap.size := lt_of_heap hx1
      have z2 := hb2.size
      have z3 := hB3.size
      have hx3 : w3.heap[w.heap.size]? = _ := (hB3.below.block _ (by omega)).trans ((hb2.block _ z1).trans hx1)
      have bx0 := cell_of_row w3 _ 0 _ _ _ hx3
      have bx1 := cell_of_row w3 _ 1 _ _ _ hx3
      have B3 : Below w.heap.size w w3 := B2.trans (hB3.below.mono (by omega))
      have hl3 : w.heap.size < w3.heap.size := lt_of_heap hx3
      have HB3 := hid hB3
      have HBL := hid B3
      have HB2 := hid B2
      clear hb1 hb2 B1 B2 B3 hB3 hx1 hx3 T9 T28' T29
      by_cases h12 : (picks xs).length ≤ 12
      · obtain ⟨A', c', must, hmu, hrow, TF⟩ := from_first HB3.out (H.out.up HB2.out).it ((HSH.out.below HB2.out).more HB2.out.size) HSM.out (HT.out.up HB2.out) h12
        have p0 := cell_of_row w3 _ 0 _ _ _ hrow
        have hp3 := lt_of_heap hrow
        have HMU := hid hmu
        have g12 : ¬ (12 : Int) < ((picks xs).length : Int) := by omega
        have H12 := hid h12
        clear hrow hmu h12
        go_wp2_with (go_at_call 25; refine (TF _ (Below.refl _ _)).mono ?_; rintro e w4 hG; obtain ⟨rb, rfl⟩ := hG.bool; have HG := hid hG; clear hG)
        go_ret2
        have hf : Fr w2.heap.size (w2.heap.size + 1) w2.heap.size (w2.heap.size + 1) w3 w4 := HG.out.1
        refine ⟨HBL.out.trans (hf.below.mono HB2.out.size), rb, 0, rfl, fun hh => absurd ⟨H1.out, H2.out⟩ hh, fun _ h => absurd h (by have := H12.out; omega), fun _ _ => ⟨rfl, ?_⟩⟩
        cases rb with
        | true =>
          obtain ⟨-, _, R, hl, -⟩ := HG.out.onTrue
          exact ⟨fun _ must' hm' => by rw [must_uniq hm' HMU.out]; exact hl.leads, fun _ => rfl⟩
        | false =>
          obtain ⟨-, _, hl, -⟩ := HG.out.onFalse
          exact ⟨fun h => absurd h (by simp), fun h => absurd (h must HMU.out) hl⟩
      · obtain ⟨A', c', must, hmu, -, -, -, hrow⟩ := HB3.out.srchAt
        have p0 := cell_of_row w3 _ 0 _ _ _ hrow
        have hp3 := lt_of_heap hrow
        have g12 : (12 : Int) < ((picks xs).length : Int) := by omega
        have H12 := hid h12
        clear hrow hmu h12
        go_wp2_with fail
        go_ret2
        exact ⟨HBL.out, false, 11, rfl, fun hh => absurd ⟨H1.out, H2.out⟩ hh, fun _ _ => ⟨rfl, rfl⟩, fun _ h => absurd h H12.out⟩
    · have T28' : ∀ W, Below w.heap.size w W → Calls Tryz.prog 23 #[.slice A xs.length c] W (fun e w' => e = .returned (.bool false) ∧ Below W.heap.size W w') := fun W hW => (T28 W hW).mono fun e w' ⟨r, he, hr, hb⟩ => ⟨by
        have : r = false := by
          cases r with
          | false => rfl
          | true => exact absurd (hr.1 rfl) h2
        rw [he, this], hb⟩
      have H2 := hid h2
      clear h2 T28
      go_enter Tryz.func9, Tryz.ntmps9
      go_wp2_with (first | (go_at_call 22; refine (T9 _ (by repeat (first | exact Below.refl _ _ | assumption | refine Below.drew ?_ | refine below_drewN ?_ _ | refine Below.alloc ?_ (by first | omega | (simp; done) | (simp; omega)) _ | refine Below.setCell ?_ (by first | omega | (simp; done) | (simp; omega)) _))).mono ?_; rintro e w1 ⟨rfl, hb1⟩; have B1 : Below w.heap.size w w1 := Below.trans (by repeat (first | exact Below.refl _ _ | assumption | refine Below.drew ?_ | refine below_drewN ?_ _ | refine Below.alloc ?_ (by first | omega | (simp; done) | (simp; omega)) _ | refine Below.setCell ?_ (by first | omega | (simp; done) | (simp; omega)) _)) (hb1.mono (by first | omega | (simp; done) | (simp; omega)))) | (go_at_call 23; refine (T28' _ B1).mono ?_; rintro e w2 ⟨rfl, hb2⟩))
      go_ret2
      exact ⟨B1.trans (hb2.mono B1.size), false, 1, rfl, fun _ => ⟨rfl, rfl⟩, fun hh => absurd hh.2 H2.out, fun hh => absurd hh.2 H2.out⟩
  · have h1' : mayB S.pairs = false := by simpa using h1
    rw [h1'] at T9
    have H1 := hid h1
    clear h1 h1'
    go_enter Tryz.func9, Tryz.ntmps9
    go_wp2_with (go_at_call 22; refine (T9 _ (by repeat (first | exact Below.refl _ _ | assumption | refine Below.drew ?_ | refine below_drewN ?_ _ | refine Below.alloc ?_ (by first | omega | (simp; done) | (simp; omega)) _ | refine Below.setCell ?_ (by first | omega | (simp; done) | (simp; omega)) _))).mono ?_; rintro e w1 ⟨rfl, hb1⟩)
    go_ret2
    exact ⟨Below.trans (by repeat (first | exact Below.refl _ _ | assumption | refine Below.drew ?_ | refine below_drewN ?_ _ | refine Below.alloc ?_ (by first | omega | (simp; done) | (simp; omega)) _ | refine Below.setCell ?_ (by first | omega | (simp; done) | (simp; omega)) _)) (hb1.mono (by first | omega | (simp; done) | (simp; omega))), false, 1, rfl, fun _ => ⟨rfl, rfl⟩, fun hh => absurd hh.1 H1.out, fun hh => absurd hh.1 H1.out⟩
end Go.Proofs.YtamcehfcjcmpmaaGreatDoor
namespace Go.Proofs.YtamcehfcjcmpmaaGreatDoor
open Go.RowKit

theorem by2 {x y : Item} {must d : Nat} {S : Shelf} : (∃ i, LeadsBy [x, y] must d S i) ↔ LeadsBy [x, y] must d S 0 ∨ LeadsBy [x, y] must d S 1 := by
  constructor
  · rintro ⟨i, h⟩
    match i, h with
    | 0, h => exact .inl h
    | 1, h => exact .inr h
    | i + 2, ⟨hi, _⟩ => exact absurd hi (by simp)
  · rintro (h | h)
    · exact ⟨_, h⟩
    · exact ⟨_, h⟩
theorem by2_0 {x y : Item} {must d : Nat} {S : Shelf} : LeadsBy [x, y] must d S 0 ↔ d.testBit 0 = false ∧ (d.testBit 1 = false → befB y.s x.s = false) ∧ x.ok S = true ∧ Leads [x, y] must (d ||| 1) (x.next S) := by
  constructor
  · rintro ⟨hi, ⟨_, h1, h2⟩, h3, h4⟩
    exact ⟨h1, fun hb => h2 1 (by simp) (by simp) hb, h3, h4⟩
  · rintro ⟨h1, h2, h3, h4⟩
    refine ⟨by simp, ⟨by simp, h1, fun j hj hne hb => ?_⟩, h3, h4⟩
    match j, hj, hne, hb with
    | 0, _, hne, _ => exact absurd rfl hne
    | 1, _, _, hb => exact h2 hb
    | j + 2, hj, _, _ => exact absurd hj (by simp)
theorem by2_1 {x y : Item} {must d : Nat} {S : Shelf} : LeadsBy [x, y] must d S 1 ↔ d.testBit 1 = false ∧ (d.testBit 0 = false → befB x.s y.s = false) ∧ y.ok S = true ∧ Leads [x, y] must (d ||| 2) (y.next S) := by
  constructor
  · rintro ⟨hi, ⟨_, h1, h2⟩, h3, h4⟩
    exact ⟨h1, fun hb => h2 0 (by simp) (by simp) hb, h3, h4⟩
  · rintro ⟨h1, h2, h3, h4⟩
    refine ⟨by simp, ⟨by simp, h1, fun j hj hne hb => ?_⟩, h3, h4⟩
    match j, hj, hne, hb with
    | 0, _, _, hb => exact h2 hb
    | 1, _, hne, _ => exact absurd rfl hne
    | j + 2, hj, _, _ => exact absurd hj (by simp)
theorem leads_two (x y : Item) (S : Shelf) : Leads [x, y] 3 0 S ↔ (befB y.s x.s = false ∧ x.ok S = true ∧ y.ok (x.next S) = true) ∨ (befB x.s y.s = false ∧ y.ok S = true ∧ x.ok (y.next S) = true) := by
  have d3 : ∀ T, Leads [x, y] 3 3 T := fun T => leads_fin (by decide)
  have d1 : ∀ T, Leads [x, y] 3 1 T ↔ y.ok T = true := fun T => by
    rw [leads_iff, by2, by2_0, by2_1]
    simp [d3, show (1 : Nat) ||| 2 = 3 from rfl, show (1 : Nat).testBit 1 = false from rfl]
  have d2 : ∀ T, Leads [x, y] 3 2 T ↔ x.ok T = true := fun T => by
    rw [leads_iff, by2, by2_0, by2_1]
    simp [d3, show (2 : Nat) ||| 1 = 3 from rfl, show (2 : Nat).testBit 1 = true from rfl]
  rw [leads_iff, by2, by2_0, by2_1]
  simp [d1, d2]
/-- the first one has not ended -/
theorem leads_open (x y : Item) (S : Shelf) : Leads [x, y] 2 0 S ↔ (befB x.s y.s = false ∧ y.ok S = true) ∨ (befB y.s x.s = false ∧ x.ok S = true ∧ y.ok (x.next S) = true) := by
  have d3 : ∀ T, Leads [x, y] 2 3 T := fun T => leads_fin (by decide)
  have d2 : ∀ T, Leads [x, y] 2 2 T := fun T => leads_fin (by decide)
  have d1 : ∀ T, Leads [x, y] 2 1 T ↔ y.ok T = true := fun T => by
    rw [leads_iff, by2, by2_0, by2_1]
    simp [d3, show (1 : Nat) ||| 2 = 3 from rfl, show (1 : Nat).testBit 1 = false from rfl]
  rw [leads_iff, by2, by2_0, by2_1]
  simp [d1, d2]
  exact Or.comm
theorem must_two {x y : Story} (hx : 0 ≤ x.en) (hy : 0 ≤ y.en) : MustIs [x, y] 3 := fun i => by
  match i with
  | 0 => exact ⟨fun _ => ⟨by simp, hx⟩, fun _ => rfl⟩
  | 1 => exact ⟨fun _ => ⟨by simp, hy⟩, fun _ => rfl⟩
  | i + 2 =>
    refine ⟨fun h => ?_, fun ⟨h, _⟩ => absurd h (by simp)⟩
    have : (3 : Nat).testBit (i + 2) = false := by
      rw [Nat.testBit_lt_two_pow]
      have : 2 ^ 2 ≤ 2 ^ (i + 2) := Nat.pow_le_pow_right (by decide) (by omega)
      omega
    rw [this] at h
    cases h
theorem must_open {x y : Story} (hx : x.en < 0) (hy : 0 ≤ y.en) : MustIs [x, y] 2 := fun i => by
  match i with
  | 0 => exact ⟨fun h => absurd h (by decide), fun ⟨_, h⟩ => absurd h (by show ¬ 0 ≤ x.en; omega)⟩
  | 1 => exact ⟨fun _ => ⟨by simp, hy⟩, fun _ => rfl⟩
  | i + 2 =>
    refine ⟨fun h => ?_, fun ⟨h, _⟩ => absurd h (by simp)⟩
    have : (2 : Nat).testBit (i + 2) = false := by
      rw [Nat.testBit_lt_two_pow]
      have : 2 ^ 2 ≤ 2 ^ (i + 2) := Nat.pow_le_pow_right (by decide) (by omega)
      omega
    rw [this] at h
    cases h
theorem picks_two {x y : Item} (hx : countsB x.s = true) (hy : countsB y.s = true) : picks [x, y] = [x, y] := by simp [picks, hx, hy]
theorem legalS_iff {xs : List Item} {S : Shelf} {must : Nat} (h : MustIs ((picks xs).map (·.s)) must) : LegalS xs S ↔ Leads (picks xs) must 0 S :=
  ⟨fun hl => hl must h, fun hl m hm => by rw [must_uniq hm h]; exact hl⟩
theorem legal_two {x y : Item} {S : Shelf} (cx : countsB x.s = true) (cy : countsB y.s = true) (hx : 0 ≤ x.s.en) (hy : 0 ≤ y.s.en) : LegalS [x, y] S ↔ (befB y.s x.s = false ∧ x.ok S = true ∧ y.ok (x.next S) = true) ∨ (befB x.s y.s = false ∧ y.ok S = true ∧ x.ok (y.next S) = true) := by
  have hp := picks_two cx cy
  rw [legalS_iff (must := 3) (by rw [hp]; exact must_two hx hy), hp, leads_two]
theorem legal_open {x y : Item} {S : Shelf} (cx : countsB x.s = true) (cy : countsB y.s = true) (hx : x.s.en < 0) (hy : 0 ≤ y.s.en) : LegalS [x, y] S ↔ (befB x.s y.s = false ∧ y.ok S = true) ∨ (befB y.s x.s = false ∧ x.ok S = true ∧ y.ok (x.next S) = true) := by
  have hp := picks_two cx cy
  rw [legalS_iff (must := 2) (by rw [hp]; exact must_open hx hy), hp, leads_open]
/-- a story of a call without a group, whose answer has neither pairs nor hits -/
def flatC (k : Int) (key val : ByteArray) : Call0 := ⟨k, key, val, ByteArray.empty, none, 0, 0⟩
def flatI (k : Int) (key val : ByteArray) (code : Int) (fd : Bool) (vl : ByteArray) (bg en : Int) : Item := ⟨⟨0, flatC k key val, code, fd, vl, none, 0, 0, none, 0, 0, 0, bg, en⟩, [], []⟩
theorem flatI_st (k : Int) (key val : ByteArray) (code : Int) (fd : Bool) (vl : ByteArray) (bg en : Int) (w : World) (B : Nat) : StIn w B (flatI k key val code fd vl bg en).s :=
  ⟨1, ⟨[], ⟨Arr.nil, rfl, by simp, by simp [flatI, flatC]⟩, by simp, by simp⟩, [], [], ⟨Arr.nil, rfl, by simp, by simp [flatI], Arr.nil, rfl, by simp, by simp [flatI]⟩, by simp, by simp⟩
theorem flatI_in (k : Int) (key val : ByteArray) (code : Int) (fd : Bool) (vl : ByteArray) (bg en : Int) (w : World) (B : Nat) : ItemIn w B (flatI k key val code fd vl bg en) :=
  ⟨⟨Arr.nil, rfl, by simp [flatI], by simp [flatI, flatC]⟩, Arr.nil, rfl, by simp [flatI]⟩
theorem flatI_sts {w : World} {B : Nat} {A : Option Addr} {c : Nat} {xs : List Item} (hf : ∀ x ∈ xs, ∃ k key val code fd vl bg en, x = flatI k key val code fd vl bg en) (h : Arr Story.enc 14 w B A (stories xs)) (hc : xs.length ≤ c) (hm : c ≤ 9223372036854775807) : StsIn w B A c xs :=
  ⟨h, fun x hx => by obtain ⟨_, _, _, _, _, _, _, _, rfl⟩ := hf x hx; exact flatI_st .., fun x hx => by obtain ⟨_, _, _, _, _, _, _, _, rfl⟩ := hf x hx; exact flatI_in .., hc, hm⟩
theorem good_flat {k : Int} {key val : ByteArray} (hk : k = 1 ∨ k = 2 ∨ k = 3) (h0 : key.toList.isEmpty = false) (h1 : key.size ≤ 16) (h2 : val.size ≤ 400) : goodI (flatC k key val) [] = 0 := by
  have hs : shapeB (flatC k key val) [] = true := by
    unfold shapeB
    rcases hk with rfl | rfl | rfl <;> simp [flatC, keyedB, h0]
  have hl : longB (flatC k key val) [] = false := by
    have e1 : decide ((16 : Int) < (key.size : Int)) = false := decide_eq_false (by omega)
    have e2 : decide ((400 : Int) < (val.size : Int)) = false := decide_eq_false (by omega)
    rcases hk with rfl | rfl | rfl
    · show (if (1 : Int) = 7 then _ else if (1 : Int) = 1 ∨ (1 : Int) = 3 then decide ((16 : Int) < (key.size : Int)) else _) = false
      rw [if_neg (by decide), if_pos (by decide)]
      exact e1
    · show (if (2 : Int) = 7 then _ else if (2 : Int) = 1 ∨ (2 : Int) = 3 then _ else if (2 : Int) = 2 then (decide ((16 : Int) < (key.size : Int)) || decide ((400 : Int) < (val.size : Int))) else _) = false
      rw [if_neg (by decide), if_neg (by decide), if_pos (by decide), e1, e2]
      rfl
    · show (if (3 : Int) = 7 then _ else if (3 : Int) = 1 ∨ (3 : Int) = 3 then decide ((16 : Int) < (key.size : Int)) else _) = false
      rw [if_neg (by decide), if_pos (by decide)]
      exact e1
  unfold goodI
  rw [hs, hl]
  rfl
theorem put_next {key val vl : ByteArray} {code : Int} {fd : Bool} {bg en : Int} {S : Shelf} (h0 : key.toList.isEmpty = false) (h1 : key.size ≤ 16) (h2 : val.size ≤ 400) : (flatI 2 key val code fd vl bg en).next S = ⟨setP S.pairs key val, S.queue⟩ := by
  have hg := good_flat (.inr (.inl rfl)) h0 h1 h2
  show apS (flatC 2 key val) [] S = _
  unfold apS
  rw [if_pos hg, if_neg (by show ¬ (2 : Int) = 7; decide)]
  rfl
theorem get_next {key vl : ByteArray} {code : Int} {fd : Bool} {bg en : Int} {S : Shelf} : (flatI 1 key ByteArray.empty code fd vl bg en).next S = S := by
  show apS (flatC 1 key ByteArray.empty) [] S = _
  unfold apS
  split
  · rw [if_neg (by show ¬ (1 : Int) = 7; decide)]; rfl
  · rfl
theorem del_next {key vl : ByteArray} {code : Int} {fd : Bool} {bg en : Int} {S : Shelf} (h0 : key.toList.isEmpty = false) (h1 : key.size ≤ 16) {val : ByteArray} (h2 : val.size ≤ 400) : (flatI 3 key val code fd vl bg en).next S = ⟨dropK key S.pairs, S.queue⟩ := by
  have hg := good_flat (.inr (.inr rfl)) h0 h1 h2
  show apS (flatC 3 key val) [] S = _
  unfold apS
  rw [if_pos hg, if_neg (by show ¬ (3 : Int) = 7; decide)]
  rfl
theorem put_ok {key val vl : ByteArray} {code : Int} {fd : Bool} {bg en : Int} {S : Shelf} (h0 : key.toList.isEmpty = false) (h1 : key.size ≤ 16) (h2 : val.size ≤ 400) (he : 0 ≤ en) : (flatI 2 key val code fd vl bg en).ok S = (fd == hasK S.pairs key && vl.toList == ByteArray.empty.toList) := by
  have hg := good_flat (.inr (.inl rfl)) h0 h1 h2
  show answeredB _ [] (apA (flatC 2 key val) [] S) = _
  unfold apA
  rw [if_pos hg, if_neg (by show ¬ (2 : Int) = 7; decide)]
  simp [answeredB, flatI, doA, flatC, ans0, show ¬ en < 0 by omega]
theorem get_ok {key vl : ByteArray} {code : Int} {fd : Bool} {bg en : Int} {S : Shelf} (h0 : key.toList.isEmpty = false) (h1 : key.size ≤ 16) (he : 0 ≤ en) : (flatI 1 key ByteArray.empty code fd vl bg en).ok S = (fd == (getD' S.pairs key).2 && vl.toList == (getD' S.pairs key).1.toList) := by
  have hg := good_flat (val := ByteArray.empty) (.inl rfl) h0 h1 (by simp)
  show answeredB _ [] (apA (flatC 1 key ByteArray.empty) [] S) = _
  unfold apA
  rw [if_pos hg, if_neg (by show ¬ (1 : Int) = 7; decide)]
  simp [answeredB, flatI, doA, flatC, ans0, show ¬ en < 0 by omega]
theorem open_ok {k : Int} {key val vl : ByteArray} {code : Int} {fd : Bool} {bg en : Int} {S : Shelf} (he : en < 0) : (flatI k key val code fd vl bg en).ok S = true := by
  show answeredB _ [] _ = true
  simp [answeredB, flatI, he]
end Go.Proofs.YtamcehfcjcmpmaaGreatDoor
