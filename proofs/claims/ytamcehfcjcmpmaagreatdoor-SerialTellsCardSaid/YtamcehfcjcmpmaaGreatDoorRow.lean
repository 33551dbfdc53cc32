/- serial.Row, for whatever stories lie in memory. -/
import Derived.Test.YtamcehfcjcmpmaaGreatDoorRowP
import Derived.Deep.DeepCutAuto
namespace Go.Proofs.YtamcehfcjcmpmaaGreatDoor
open Go.RowKit

theorem Arr.numE1 {w : World} {B : Nat} {A : Option Addr} {l : List Nat} (h : Arr numE 1 w B A l) {i : Nat} (hi : i < l.length) : ∃ b off, A = some ⟨b, off, none⟩ ∧ b < B ∧ w.cell? ⟨b, off + i, none⟩ = some (.int .i64 (l[i] : Int)) := by
  rcases h with h | ⟨b, off, hA, hB, hc⟩
  · rw [h] at hi; simp at hi
  · exact ⟨b, off, hA, hB, by have := hc i hi 0 _ rfl; simpa using this⟩
theorem BInv.srchAtQ {w : World} {xs : List Item} {w' : World} {A' : Option Addr} {c' : Nat} (h : BInv w (stories xs) (stories xs).length w' A' c') {qq : Nat} (hq : qq < w'.heap.size) : ∃ A c must, MustIs ((picks xs).map (·.s)) must ∧ (picks xs).length ≤ c ∧ c ≤ 9223372036854775807 ∧ SrchAt w.heap.size (w.heap.size + 1) w.heap.size qq (picks xs) must A c w' [] (fun _ _ => False) := by
  obtain ⟨⟨A, c, must, h1, h2, h3⟩, hm, -, hb, hz⟩ := h
  have h1r := h1.row
  rw [pick_picks] at h1r h2 h3
  rw [List.length_map] at h1r
  have hl := h3.len
  rw [List.length_map] at hl
  exact ⟨A, c, must, h2, hl, h3.max, ⟨⟨none, 0, h1r, Own.none_, by simp [rowOf], hq⟩, ⟨#[], 0, hm, CMS.nil⟩, ArrS.of_own Story.enc_len h3 (by decide) (fun cur h => by rw [h1r] at h; cases h) (fun cur h => by rw [hm] at h; cases h), by omega, by omega⟩⟩
/-- a block for the places, if they have one -/
theorem Own.blockOr {w : World} {lo : Nat} {A : Option Addr} {c : Nat} {l : List Nat} (h : Own numE 3 1 w lo A c l) {d : Nat} (hd : d < w.heap.size) : ∃ qq, qq < w.heap.size ∧ ∀ b off, A = some ⟨b, off, none⟩ → c = 0 ∨ (b = qq ∧ lo ≤ b) := by
  rcases h.lt with h0 | ⟨b, off, hA, hl, hb⟩
  · exact ⟨d, hd, fun _ _ _ => .inl h0⟩
  · exact ⟨b, hb, fun b' off' h' => by rw [hA] at h'; cases h'; exact .inr ⟨rfl, hl⟩⟩
/-- are they as if one by one, and may they be asked? -/
def RowGood (xs : List Item) (S : Shelf) : Prop := (mayB S.pairs = true ∧ MayS (stories xs)) ∧ (picks xs).length ≤ 12 ∧ LegalS xs S
def GivesRow (xs : List Item) (S : Shelf) (w : World) (e : Ending) (w' : World) : Prop :=
  Below w.heap.size w w' ∧ ((e = .returned (.tuple #[.slice none 0 0, .bool false]) ∧ ¬ RowGood xs S) ∨
    (RowGood xs S ∧ ∃ must R A c, e = .returned (.tuple #[.slice A (told xs R).length c, .bool true]) ∧ Own numE 3 1 w' w.heap.size A c (told xs R) ∧ MustIs ((picks xs).map (·.s)) must ∧ Least (picks xs) must 0 S R))
theorem GivesLegal.good {xs : List Item} {S : Shelf} {w w' : World} {e : Ending} (h : GivesLegal xs S w e w') : Below w.heap.size w w' ∧ ∃ r code, e = .returned (.tuple #[.bool r, .int .i64 code]) ∧ (r = true ↔ RowGood xs S) := by
  obtain ⟨hb, r, code, rfl, h1, h2, h3⟩ := h
  refine ⟨hb, r, code, rfl, fun hr => ?_, fun hg => (h3 hg.1 hg.2.1).2.2 hg.2.2⟩
  by_cases hm : mayB S.pairs = true ∧ MayS (stories xs)
  · by_cases hp : (picks xs).length ≤ 12
    · exact ⟨hm, hp, (h3 hm hp).2.1 hr⟩
    · have := (h2 hm (by omega)).1
      rw [hr] at this
      cases this
  · have := (h1 hm).1
    rw [hr] at this
    cases this
theorem told_take {xs : List Item} {R : List Nat} {k : Nat} (hk : k < R.length) : told xs (R.take (k + 1)) = told xs (R.take k) ++ [(places xs).getD R[k] 0] := by
  unfold told
  rw [List.take_succ_eq_append_getElem hk, List.map_append]
  rfl
set_option maxHeartbeats 2000000 in
set_option maxRecDepth 100000 in
theorem row_any (xs : List Item) (A : Option Addr) (c : Nat) (S : Shelf) (PA : Option Addr) (pc : Nat) (QA : Option Addr) (qc : Nat) (w : World) (h : StsIn w w.heap.size A c xs) (hl : xs.length ≤ 60) (hsh : ShIn w w.heap.size PA pc QA qc S) (hsm : Small S 0) (htab : Tab w.heap.size w) :
    Calls Tryz.prog 10 #[.agg #[.slice PA S.pairs.length pc, .slice QA S.queue.length qc], .slice A xs.length c] w (GivesRow xs S w) := by
  have H := hid h
  have HSH := hid hsh
  have HSM := hid hsm
  have HT := hid htab
  have HL := hid hl
  clear h hsh hsm htab hl
  go_enter Tryz.func10, Tryz.ntmps10
  go_wp2_with fail
  have b0 : Below w.heap.size w (w.alloc (.cells #[.slice PA S.pairs.length pc, .slice QA S.queue.length qc] 25)) := (by repeat (first | exact Below.refl _ _ | assumption | refine Below.drew ?_ | refine below_drewN ?_ _ | refine Below.alloc ?_ (by first | omega | (simp; done) | (simp; omega)) _ | refine Below.setCell ?_ (by first | omega | (simp; done) | (simp; omega)) _))
  refine (legal_any xs A c S PA pc QA qc _ (H.out.up b0) HL.out ((HSH.out.below b0).more b0.size) HSM.out (HT.out.up b0)).mono ?_
  rintro e w1 hG
  obtain ⟨hb1, r, code, rfl, hgood⟩ := hG.good
  have bw1 : Below w.heap.size w w1 := b0.trans (hb1.mono b0.size)
  have R1 : w1.heap[w.heap.size]? = some (.cells #[.slice PA S.pairs.length pc, .slice QA S.queue.length qc] 25 (0, 0)) := (hb1.block _ (by simp)).trans ((heap_alloc_if _ _ _).trans (if_pos rfl))
  have q0 := cell_of_row w1 _ 0 _ _ _ R1
  have q1 := cell_of_row w1 _ 1 _ _ _ R1
  have ql := lt_of_heap R1
  cases r with
  | false =>
    have HN : Hid (¬ RowGood xs S) := hid fun hg => by have := hgood.2 hg; cases this
    clear hgood
    go_wp2_with fail
    go_ret2
    exact ⟨bw1, .inl ⟨rfl, HN.out⟩⟩
  | true =>
  have HG := hid (hgood.1 rfl)
  clear hgood hG hb1 b0
  go_wp2_with fail
  have hlm : (stories xs).length = xs.length := by simp [stories]
  have T29 := begun_any (stories xs) A c w1 ((H.out.up bw1).arr) (fun s hs => by
    obtain ⟨x, hx, rfl⟩ := List.mem_map.1 hs
    exact (H.out.up bw1).st x hx) (by rw [hlm]; exact H.out.cap) H.out.max (by rw [hlm]; exact HL.out)
  rw [hlm] at T29
  refine T29.mono ?_
  rintro e w2 ⟨A3, c3, rfl, hB⟩
  have HB := hid hB
  have st2 : Below w1.heap.size w1 w2 := hB.below
  have R2 := (st2.block _ ql).trans R1
  clear T29 hB q0 q1 R1
  obtain ⟨qq, hqq, hqb⟩ := HB.out.own.blockOr (d := w1.heap.size + 1) (by have := HB.out.size; omega)
  obtain ⟨SA, sc, must, hmu, hsc, hsm2, hsr⟩ := HB.out.srchAtQ hqq
  have bw2 : Below w.heap.size w w2 := bw1.trans (st2.mono bw1.size)
  have TF := from_any w1.heap.size (w1.heap.size + 1) w1.heap.size qq (picks xs) must SA sc ((picks xs).length - cntD (picks xs).length 0) 0 S PA pc QA qc [] (fun _ _ => False) w2 rfl
    ⟨hsr, fun x hx => ((H.out.it x (picks_mem hx)).below bw2).more bw1.size, ShS.of_in ((HSH.out.below bw2).more bw1.size), by rw [cntD_zero]; exact HSM.out, fun _ _ h => h.elim, (HT.out.up bw1).go st2, fun i hi => by simp at hi, must_mbit hmu, by simp, HG.out.2.1, hsc, hsm2⟩
  have HTF := hid TF
  have HMU := hid hmu
  have HSR := hid hsr
  have HQB := hid hqb
  have q0 := cell_of_row w2 _ 0 _ _ _ R2
  have q1 := cell_of_row w2 _ 1 _ _ _ R2
  have ql2 := lt_of_heap R2
  clear TF hmu hsr hqb hsc hsm2 hlm
  go_wp2_with fail
  refine HTF.out.mono ?_
  rintro e w3 hF
  obtain ⟨rb, rfl⟩ := hF.bool
  cases rb with
  | false =>
    obtain ⟨-, _, hn, -⟩ := hF.onFalse
    exact absurd (HG.out.2.2 must HMU.out) hn
  | true =>
  obtain ⟨hfr, T', R, hlR, hsr3⟩ := hF.onTrue
  rw [List.nil_append] at hsr3
  obtain ⟨RA, rc, hbox, hown⟩ := hsr3.box
  have hRl : ∀ i ∈ R, i < (picks xs).length := fun i hi => by
    obtain ⟨n, hn, rfl⟩ := List.getElem_of_mem hi
    exact (path_each hlR.path n hn).1
  have hR12 : R.length ≤ 12 := by
    refine Nat.le_trans (nodup_le _ R ?_ hRl) HG.out.2.1
    rw [List.nodup_iff_pairwise_ne, List.pairwise_iff_getElem]
    intro i j hi hj hij
    exact (path_each hlR.path j hj).2.2.1 i hij
  have bw3 : Below w.heap.size w w3 := bw2.trans (hfr.below.mono bw1.size)
  have hb3 : Below w1.heap.size w2 w3 := hfr.below
  have hpl : Arr numE 1 w3 w3.heap.size A3 (places xs) := by
    have ho := HB.out.own
    rw [show (stories xs).length = xs.length by simp [stories]] at ho
    by_cases hc0 : c3 = 0
    · have hl0 := ho.len
      refine .inl (List.length_eq_zero_iff.1 ?_)
      unfold places
      omega
    have h2 : Own numE 3 1 w3 (w1.heap.size + 2) A3 c3 (places xs) := by
      refine ho.keep fun b off hA hlo hb => ?_
      rcases HQB.out b off hA with h0 | ⟨h0, -⟩
      · exact absurd h0 hc0
      · exact hfr.keep b hb (by omega) (by omega) (.inr h0)
    exact h2.arr numE_len
  have hpc : (places xs).length ≤ c3 := by have := HB.out.own.len; rw [show (stories xs).length = xs.length by simp [stories]] at this; exact this
  have hpm := HB.out.own.max
  have hpe : (placesTo (stories xs) (stories xs).length).length = (places xs).length := by rw [show (stories xs).length = xs.length by simp [stories]]; rfl
  rw [hpe]
  have hRA := hown.own.arr numE_len
  have hRc := hown.own.len
  have hRm := hown.own.max
  have HLR := hid hlR
  have HRL := hid hRl
  have HPL := hid hpl
  have HRA := hid hRA
  have p0 := cell_of_row w3 _ 2 _ _ _ hbox
  have hp3 := lt_of_heap hbox
  have hpk := places_len xs
  have HPK := hid hpk
  have hz3 := bw3.size
  clear hF hfr hsr3 hbox hown hlR hRl hpl hRA q0 q1 ql2 R2 hpe hpk HTF HSR HQB
  go_wp2_with fail
  go_loopw [10, 34] (fun v10 v34 wr => ∃ (k : Nat) (A9 : Option Addr) (c9 : Nat), k ≤ R.length ∧ v34 = .int .i64 k ∧ v10 = .slice A9 (told xs (R.take k)).length c9 ∧ Own numE 3 1 wr w3.heap.size A9 c9 (told xs (R.take k)) ∧ Below w3.heap.size w3 wr) (fun _ v34 _ => R.length - (intOf v34).toNat)
  case atStart => exact ⟨0, none, 0, Nat.zero_le _, rfl, by simp [told], by simpa [told] using Own.none_, Below.refl _ _⟩
  case round =>
    obtain ⟨k, A9, c9, hk, rfl, rfl, hO, hb⟩ := hrel
    have HO := hid hO
    have hsz := hb.size
    clear hO
    by_cases hlt : k < R.length
    · obtain ⟨rb, ro, hA, hBb, d0⟩ := (HRA.out.below hb).numE1 hlt
      subst hA
      have hRk : R[k] < (places xs).length := by rw [HPK.out]; exact HRL.out _ (List.getElem_mem hlt)
      obtain ⟨pb, po, hA, hPb, d1⟩ := (HPL.out.below hb).numE1 hRk
      subst hA
      have hrb : rb < wr.heap.size := Nat.lt_of_lt_of_le hBb hsz
      have hpb : pb < wr.heap.size := Nat.lt_of_lt_of_le hPb hsz
      have hgd : (places xs).getD R[k] 0 = (places xs)[R[k]] := by rw [List.getD_eq_getElem?_getD, List.getElem?_eq_getElem hRk]; rfl
      have HGD := hid hgd
      have HTK := hid (told_take (xs := xs) hlt)
      have hn : (told xs (R.take k)).length ≤ 12 := by simp [told]; omega
      have HN := hid hn
      have hkk : (R[k] : Int) < ((places xs).length : Int) := by omega
      clear hgd hn
      generalize (places xs)[R[k]] = pl at *
      generalize R[k] = ri at *
      go_wp2_with (at_builtin; refine app_num (l := told xs (R.take k)) (m := [pl]) (A := A9) (c := c9) (lo := w3.heap.size) _ rfl (.tmp 38) (.tmp 43) (by first | rfl | simp [Act.eval]) (by first | rfl | simp [Act.eval]) (HO.out.alloc _) 1 (by first | rfl | simp [Act.eval]) (arr_oneNum (vb := wr.heap.size) (x := pl) (by rw [heap_alloc_if, if_pos (by simp)])) (by have := HN.out; simp; omega) (by simp; omega) ?_; intro A8 c8 w8 hown8 hgr8 hloc8)
      refine ⟨⟨k + 1, A8, c8, by omega, by go_num, ?_, ?_, ?_⟩, by simp [intOf]; omega⟩
      · rw [HTK.out, List.length_append]; rfl
      · rw [HTK.out, HGD.out]; exact hown8
      · exact ownBelow (HO.out.alloc _) hgr8 (show Below w3.heap.size w3 _ from (by repeat (first | exact Below.refl _ _ | assumption | refine Below.drew ?_ | refine below_drewN ?_ _ | refine Below.alloc ?_ (by first | omega | (simp; done) | (simp; omega)) _ | refine Below.setCell ?_ (by first | omega | (simp; done) | (simp; omega)) _))) (by simp; omega)
    · obtain rfl : k = R.length := by omega
      have hO := HO.out
      rw [List.take_length] at hO ⊢
      have HO2 := hid hO
      clear hO
      go_wp2_with fail
      go_ret2
      exact ⟨bw3.trans (hb.mono hz3), .inr ⟨HG.out, must, R, A9, c9, rfl, HO2.out.lower hz3, HMU.out, HLR.out⟩⟩
end Go.Proofs.YtamcehfcjcmpmaaGreatDoor
