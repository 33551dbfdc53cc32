/- serial.Legal, for whatever stories lie in memory. -/
import Derived.Test.YtamcehfcjcmpmaaDoorFro
import Derived.Test.YtamcehfcjcmpmaaDoorMayI
namespace Go.Proofs.YtamcehfcjcmpmaaDoor
open Go.RowKit

def stories (xs : List Item) : List Story := xs.map (·.s)
/-- those that a row may have -/
def picks (xs : List Item) : List Item := xs.filter fun x => countsB x.s
theorem pick_picks (xs : List Item) : pick (stories xs) (stories xs).length = (picks xs).map (·.s) := by
  unfold pick picks stories
  rw [List.take_length, List.filter_map]
  rfl
theorem picks_mem {xs : List Item} {x : Item} (h : x ∈ picks xs) : x ∈ xs := (List.mem_filter.1 h).1
theorem picks_len (xs : List Item) : (picks xs).length ≤ xs.length := List.length_filter_le _ _
/-- the stories lie in memory -/
structure StsIn (w : World) (B : Nat) (A : Option Addr) (c : Nat) (xs : List Item) : Prop where
  arr : Arr Story.enc 14 w B A (stories xs)
  st : ∀ x ∈ xs, StIn w B x.s
  it : ∀ x ∈ xs, ItemIn w B x
  cap : xs.length ≤ c
  max : c ≤ 9223372036854775807
theorem StsIn.below {w w' : World} {B : Nat} {A : Option Addr} {c : Nat} {xs : List Item} (h : StsIn w B A c xs) (hb : Below B w w') : StsIn w' B A c xs :=
  ⟨h.arr.below hb, fun x hx => (h.st x hx).below hb, fun x hx => (h.it x hx).below hb, h.cap, h.max⟩
theorem StsIn.more {w : World} {B B' : Nat} {A : Option Addr} {c : Nat} {xs : List Item} (h : StsIn w B A c xs) (hB : B ≤ B') : StsIn w B' A c xs :=
  ⟨h.arr.more hB, fun x hx => (h.st x hx).more hB, fun x hx => (h.it x hx).more hB, h.cap, h.max⟩
theorem StsIn.up {w w' : World} {A : Option Addr} {c : Nat} {xs : List Item} (h : StsIn w w.heap.size A c xs) (hb : Below w.heap.size w w') : StsIn w' w'.heap.size A c xs := (h.below hb).more hb.size
theorem Tab.up {w w' : World} (h : Tab w.heap.size w) (hb : Below w.heap.size w w') : Tab w'.heap.size w' := fun w2 h2 => h w2 (hb.trans (h2.mono hb.size))
/-- what begun has made is a search that has tried nothing -/
theorem BInv.srchAt {w : World} {xs : List Item} {w' : World} {A' : Option Addr} {c' : Nat} (h : BInv w (stories xs) (stories xs).length w' A' c') : ∃ A c must, MustIs ((picks xs).map (·.s)) must ∧ (picks xs).length ≤ c ∧ c ≤ 9223372036854775807 ∧ SrchAt w.heap.size (w.heap.size + 1) w.heap.size (w.heap.size + 1) (picks xs) must A c w' [] (fun _ _ => False) ∧
    w'.heap[w.heap.size + 1]? = some (.cells #[.slice A (picks xs).length c, .int .u64 (must : Int), .slice none 0 0, .map (some w.heap.size)] 79 (0, 0)) := by
  obtain ⟨⟨A, c, must, h1, h2, h3⟩, hm, -, hb, hz⟩ := h
  have h1r := h1.row
  rw [pick_picks] at h1r h2 h3
  rw [List.length_map] at h1r
  have hl := h3.len
  rw [List.length_map] at hl
  refine ⟨A, c, must, h2, hl, h3.max, ⟨⟨none, 0, h1r, Own.none_, by simp [rowOf], lt_of_heap h1r⟩, ⟨#[], 0, hm, CMS.nil⟩, ArrS.of_own Story.enc_len h3 (by decide) (fun cur h => by rw [h1r] at h; cases h) (fun cur h => by rw [hm] at h; cases h), by omega, by omega⟩, h1r⟩
theorem cntD_zero (n : Nat) : cntD n 0 = 0 := by simp [cntD]
/-- stories that have a row, from a store -/
def LegalS (xs : List Item) (S : Shelf) : Prop := ∀ must, MustIs ((picks xs).map (·.s)) must → Leads (picks xs) must 0 S
theorem must_uniq {l : List Story} {a b : Nat} (ha : MustIs l a) (hb : MustIs l b) : a = b := by
  apply Nat.eq_of_testBit_eq
  intro i
  cases h1 : a.testBit i <;> cases h2 : b.testBit i
  · rfl
  · have := (ha i).2 ((hb i).1 h2); rw [h1] at this; cases this
  · have := (hb i).2 ((ha i).1 h1); rw [h2] at this; cases this
  · rfl
theorem must_mbit {L : List Item} {m : Nat} (h : MustIs (L.map (·.s)) m) (i : Nat) (hi : m.testBit i = true) : i < L.length := by
  obtain ⟨h1, _⟩ := (h i).1 hi
  simpa using h1
/-- what Legal says -/
def GivesLegal (xs : List Item) (S : Shelf) (w : World) (e : Ending) (w' : World) : Prop :=
  Below w.heap.size w w' ∧ ∃ r code, e = .returned (.tuple #[.bool r, .int .i64 code]) ∧
    (¬ (mayB S.pairs = true ∧ MayS (stories xs)) → r = false ∧ code = 1) ∧ (mayB S.pairs = true ∧ MayS (stories xs) → 12 < (picks xs).length → r = false ∧ code = 11) ∧ (mayB S.pairs = true ∧ MayS (stories xs) → (picks xs).length ≤ 12 → code = 0 ∧ (r = true ↔ LegalS xs S))
/-- a call of from as the first one -/
theorem from_first {xs : List Item} {S : Shelf} {PA : Option Addr} {pc : Nat} {QA : Option Addr} {qc : Nat} {w w1 : World} {A' : Option Addr} {c' : Nat} (hB : BInv w (stories xs) (stories xs).length w1 A' c') (hIt : ∀ x ∈ xs, ItemIn w w.heap.size x) (hsh : ShIn w w.heap.size PA pc QA qc S) (hsm : Small S 0) (htab : Tab w.heap.size w) (hlen : (picks xs).length ≤ 12) :
    ∃ A c must, MustIs ((picks xs).map (·.s)) must ∧ w1.heap[w.heap.size + 1]? = some (.cells #[.slice A (picks xs).length c, .int .u64 (must : Int), .slice none 0 0, .map (some w.heap.size)] 79 (0, 0)) ∧
    ∀ W, Below w1.heap.size w1 W → Calls Tryd.prog 30 #[.pointer (some ⟨w.heap.size + 1, 0, none⟩), .int .u64 0, .agg #[.slice PA S.pairs.length pc, .slice QA S.queue.length qc]] W (GivesFrom w.heap.size (w.heap.size + 1) w.heap.size (w.heap.size + 1) (picks xs) must A c 0 S [] (fun _ _ => False) W) := by
  obtain ⟨A, c, must, hmu, hc, hm, hs, hrow⟩ := hB.srchAt
  refine ⟨A, c, must, hmu, hrow, fun W hW => ?_⟩
  have hz := hB.size
  have hbW : Below w.heap.size w W := hB.below.trans (hW.mono (by omega))
  have h := from_any w.heap.size (w.heap.size + 1) w.heap.size (w.heap.size + 1) (picks xs) must A c ((picks xs).length - cntD (picks xs).length 0) 0 S PA pc QA qc [] (fun _ _ => False) W rfl
    ⟨hs.below hW, fun x hx => (hIt x (picks_mem hx)).below hbW, ShS.of_in (hsh.below hbW), by rw [cntD_zero]; exact hsm, fun _ _ h => h.elim, htab.go hbW, fun i hi => by simp at hi, must_mbit hmu, by simp, hlen, hc, hm⟩
  exact h
set_option maxHeartbeats 4000000 in
set_option maxRecDepth 100000 in
theorem legal_any (xs : List Item) (A : Option Addr) (c : Nat) (S : Shelf) (PA : Option Addr) (pc : Nat) (QA : Option Addr) (qc : Nat) (w : World) (h : StsIn w w.heap.size A c xs) (hl : xs.length ≤ 60) (hsh : ShIn w w.heap.size PA pc QA qc S) (hsm : Small S 0) (htab : Tab w.heap.size w) :
    Calls Tryd.prog 16 #[.agg #[.slice PA S.pairs.length pc, .slice QA S.queue.length qc], .slice A xs.length c] w (GivesLegal xs S w) := by
  have H := hid h
  have HSH := hid hsh
  have HSM := hid hsm
  have HT := hid htab
  have HL := hid hl
  clear h hsh hsm htab hl
  have hlm : (stories xs).length = xs.length := by simp [stories]
  have T9 : ∀ W, Below w.heap.size w W → Calls Tryd.prog 9 #[.agg #[.slice PA S.pairs.length pc, .slice QA S.queue.length qc]] W fun e w' => e = .returned (.bool (mayB S.pairs)) ∧ Below W.heap.size W w' := fun W hW => may_any S PA pc QA S.queue.length qc W ((HSH.out.pairs.below hW).more hW.size) HSH.out.plen HSH.out.pmax
  have T28 : ∀ W, Below w.heap.size w W → Calls Tryd.prog 28 #[.slice A xs.length c] W (GivesMay (stories xs) W) := fun W hW => by
    have := maySt_any (stories xs) A c W ((H.out.up hW).arr) (by rw [hlm]; exact H.out.cap) H.out.max
    rw [hlm] at this
    exact this
  have T29 : ∀ W, Below w.heap.size w W → Calls Tryd.prog 29 #[.slice A xs.length c] W (GivesB (stories xs) W) := fun W hW => by
    have := begun_any (stories xs) A c W ((H.out.up hW).arr) (fun s hs => by
      obtain ⟨x, hx, rfl⟩ := List.mem_map.1 hs
      exact (H.out.up hW).st x hx) (by rw [hlm]; exact H.out.cap) H.out.max (by rw [hlm]; exact HL.out)
    rw [hlm] at this
    exact this
  have HLM := hid hlm
  clear hlm
  by_cases h1 : mayB S.pairs = true
  · rw [h1] at T9
    have H1 := hid h1
    clear h1
    by_cases h2 : MayS (stories xs)
    · have T28' : ∀ W, Below w.heap.size w W → Calls Tryd.prog 28 #[.slice A xs.length c] W (fun e w' => e = .returned (.bool true) ∧ Below W.heap.size W w') := fun W hW => (T28 W hW).mono fun e w' ⟨r, he, hr, hb⟩ => ⟨by rw [he, hr.2 h2], hb⟩
      have H2 := hid h2
      clear h2 T28
      go_enter Tryd.func16, Tryd.ntmps16
      go_upto_region 4 with (first | (go_at_call 9; refine (T9 _ (by repeat (first | exact Below.refl _ _ | assumption | refine Below.drew ?_ | refine below_drewN ?_ _ | refine Below.alloc ?_ (by first | omega | (simp; done) | (simp; omega)) _ | refine Below.setCell ?_ (by first | omega | (simp; done) | (simp; omega)) _))).mono ?_; rintro e w1 ⟨rfl, hb1⟩; have B1 : Below w.heap.size w w1 := Below.trans (by repeat (first | exact Below.refl _ _ | assumption | refine Below.drew ?_ | refine below_drewN ?_ _ | refine Below.alloc ?_ (by first | omega | (simp; done) | (simp; omega)) _ | refine Below.setCell ?_ (by first | omega | (simp; done) | (simp; omega)) _)) (hb1.mono (by first | omega | (simp; done) | (simp; omega)))) | (go_at_call 28; refine (T28' _ B1).mono ?_; rintro e w2 ⟨rfl, hb2⟩; have B2 : Below w.heap.size w w2 := B1.trans (hb2.mono B1.size)) | (go_at_call 29; refine (T29 _ B2).mono ?_; rintro e w3 ⟨A3, c3, rfl, hB3⟩))
      have hx1 : w1.heap[w.heap.size]? = some (.cells #[.slice PA S.pairs.length pc, .slice QA S.queue.length qc] 25 (0, 0)) := (hb1.block _ (by simp)).trans ((heap_alloc_if _ _ _).trans (if_pos rfl))
      have z1 : w.heap.size < w1.heap.size := lt_of_heap hx1
      have z2 := hb2.size
      have z3 := hB3.size
      have hx3 : w3.heap[w.heap.size]? = _ := (hB3.below.block _ (by omega)).trans ((hb2.block _ z1).trans hx1)
      have bx0 := cell_of_row w3 _ 0 _ _ _ hx3
      have bx1 := cell_of_row w3 _ 1 _ _ _ hx3
      have B3 : Below w.heap.size w w3 := B2.trans (hB3.below.mono (by omega))
      have hl3 : w.heap.size < w3.heap.size := lt_of_heap hx3
      have HB3 := hid hB3
      have HBL := hid B3
      have HB2 := hid B2
      clear hb1 hb2 B1 B2 B3 hB3 hx1 hx3 T9 T28' T29
      by_cases h12 : (picks xs).length ≤ 12
      · obtain ⟨A', c', must, hmu, hrow, TF⟩ := from_first HB3.out (H.out.up HB2.out).it ((HSH.out.below HB2.out).more HB2.out.size) HSM.out (HT.out.up HB2.out) h12
        have p0 := cell_of_row w3 _ 0 _ _ _ hrow
        have hp3 := lt_of_heap hrow
        have HMU := hid hmu
        have g12 : ¬ (12 : Int) < ((picks xs).length : Int) := by omega
        have H12 := hid h12
        clear hrow hmu h12
        go_wp2_with (go_at_call 30; refine (TF _ (Below.refl _ _)).mono ?_; rintro e w4 hG; obtain ⟨rb, rfl⟩ := hG.bool; have HG := hid hG; clear hG)
        go_ret2
        have hf : Fr w2.heap.size (w2.heap.size + 1) w2.heap.size (w2.heap.size + 1) w3 w4 := HG.out.1
        refine ⟨HBL.out.trans (hf.below.mono HB2.out.size), rb, 0, rfl, fun hh => absurd ⟨H1.out, H2.out⟩ hh, fun _ h => absurd h (by have := H12.out; omega), fun _ _ => ⟨rfl, ?_⟩⟩
        cases rb with
        | true =>
          obtain ⟨-, _, R, hl, -⟩ := HG.out.onTrue
          exact ⟨fun _ must' hm' => by rw [must_uniq hm' HMU.out]; exact hl.leads, fun _ => rfl⟩
        | false =>
          obtain ⟨-, _, hl, -⟩ := HG.out.onFalse
          exact ⟨fun h => absurd h (by simp), fun h => absurd (h must HMU.out) hl⟩
      · obtain ⟨A', c', must, hmu, -, -, -, hrow⟩ := HB3.out.srchAt
        have p0 := cell_of_row w3 _ 0 _ _ _ hrow
        have hp3 := lt_of_heap hrow
        have g12 : (12 : Int) < ((picks xs).length : Int) := by omega
        have H12 := hid h12
        clear hrow hmu h12
        go_wp2_with fail
        go_ret2
        exact ⟨HBL.out, false, 11, rfl, fun hh => absurd ⟨H1.out, H2.out⟩ hh, fun _ _ => ⟨rfl, rfl⟩, fun _ h => absurd h H12.out⟩
    · have T28' : ∀ W, Below w.heap.size w W → Calls Tryd.prog 28 #[.slice A xs.length c] W (fun e w' => e = .returned (.bool false) ∧ Below W.heap.size W w') := fun W hW => (T28 W hW).mono fun e w' ⟨r, he, hr, hb⟩ => ⟨by
        have : r = false := by
          cases r with
          | false => rfl
          | true => exact absurd (hr.1 rfl) h2
        rw [he, this], hb⟩
      have H2 := hid h2
      clear h2 T28
      go_enter Tryd.func16, Tryd.ntmps16
      go_wp2_with (first | (go_at_call 9; refine (T9 _ (by repeat (first | exact Below.refl _ _ | assumption | refine Below.drew ?_ | refine below_drewN ?_ _ | refine Below.alloc ?_ (by first | omega | (simp; done) | (simp; omega)) _ | refine Below.setCell ?_ (by first | omega | (simp; done) | (simp; omega)) _))).mono ?_; rintro e w1 ⟨rfl, hb1⟩; have B1 : Below w.heap.size w w1 := Below.trans (by repeat (first | exact Below.refl _ _ | assumption | refine Below.drew ?_ | refine below_drewN ?_ _ | refine Below.alloc ?_ (by first | omega | (simp; done) | (simp; omega)) _ | refine Below.setCell ?_ (by first | omega | (simp; done) | (simp; omega)) _)) (hb1.mono (by first | omega | (simp; done) | (simp; omega)))) | (go_at_call 28; refine (T28' _ B1).mono ?_; rintro e w2 ⟨rfl, hb2⟩))
      go_ret2
      exact ⟨B1.trans (hb2.mono B1.size), false, 1, rfl, fun _ => ⟨rfl, rfl⟩, fun hh => absurd hh.2 H2.out, fun hh => absurd hh.2 H2.out⟩
  · have h1' : mayB S.pairs = false := by simpa using h1
    rw [h1'] at T9
    have H1 := hid h1
    clear h1 h1'
    go_enter Tryd.func16, Tryd.ntmps16
    go_wp2_with (go_at_call 9; refine (T9 _ (by repeat (first | exact Below.refl _ _ | assumption | refine Below.drew ?_ | refine below_drewN ?_ _ | refine Below.alloc ?_ (by first | omega | (simp; done) | (simp; omega)) _ | refine Below.setCell ?_ (by first | omega | (simp; done) | (simp; omega)) _))).mono ?_; rintro e w1 ⟨rfl, hb1⟩)
    go_ret2
    exact ⟨Below.trans (by repeat (first | exact Below.refl _ _ | assumption | refine Below.drew ?_ | refine below_drewN ?_ _ | refine Below.alloc ?_ (by first | omega | (simp; done) | (simp; omega)) _ | refine Below.setCell ?_ (by first | omega | (simp; done) | (simp; omega)) _)) (hb1.mono (by first | omega | (simp; done) | (simp; omega))), false, 1, rfl, fun _ => ⟨rfl, rfl⟩, fun hh => absurd hh.1 H1.out, fun hh => absurd hh.1 H1.out⟩
end Go.Proofs.YtamcehfcjcmpmaaDoor
