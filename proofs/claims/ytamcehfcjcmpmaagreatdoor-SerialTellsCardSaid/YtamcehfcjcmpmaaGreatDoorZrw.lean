/- fuseeref25's Wrong and Row: at any stories that are not large. -/
import Derived.Test.YtamcehfcjcmpmaaGreatDoorZtp
import Derived.Test.YtamcehfcjcmpmaaGreatDoorRef1
import Derived.Deep.OwnRows
import Derived.Laws.OwnMore
import Derived.Deep.DeepCutAuto
namespace Go.Proofs.YtamcehfcjcmpmaaGreatDoor
open Go.RowKit

set_option maxHeartbeats 4000000 in
set_option maxRecDepth 100000 in
theorem wrong_any (xs : List Item) (A : Option Addr) (c : Nat) (S : Shelf) (PA : Option Addr) (pc : Nat) (QA : Option Addr) (qc : Nat) (w : World) (h : StsRaw w w.heap.size A c xs) (hl : xs.length ≤ 16) (hsh : ShIn w w.heap.size PA pc QA qc S) :
    Calls Tryz.prog 6 #[.agg #[.slice PA S.pairs.length pc, .slice QA S.queue.length qc], .slice A xs.length c] w fun e w' => e = .returned (.int .i64 (codeL xs S)) ∧ Below w.heap.size w w' := by
  have H := hid h
  have HSH := hid hsh
  have HL := hid hl
  have hlm : (stories xs).length = xs.length := by simp [stories]
  have HLM := hid hlm
  have TM : ∀ W, Below w.heap.size w W → Calls Tryz.prog 19 #[.slice A xs.length c] W (GivesMay (stories xs) W) := fun W hW => by
    have t := may24 (stories xs) A c W ((H.out.arr.below hW).more hW.size) (by rw [hlm]; exact H.out.cap) H.out.max
    rw [hlm] at t
    exact t
  have TC : ∀ W, Below w.heap.size w W → Calls Tryz.prog 20 #[.slice A xs.length c] W fun e w' => ∃ A' c', e = .returned (.slice A' (picks xs).length c') ∧ Below W.heap.size W w' := fun W hW => by
    have t := counted_any (stories xs) A c W ((H.out.arr.below hW).more hW.size) (by rw [hlm]; exact H.out.cap) H.out.max (by rw [hlm]; have := HL.out; omega)
    rw [hlm, show (placesTo (stories xs) xs.length).length = (picks xs).length from places_len xs] at t
    refine t.mono ?_
    rintro e w' ⟨A', c', rfl, -, hb⟩
    exact ⟨A', c', rfl, hb⟩
  have HTM := hid TM
  have HTC := hid TC
  clear h hsh hl hlm TM TC
  go_enter Tryz.func6, Tryz.ntmps6
  go_wp2_with fail
  refine (refmay_any S PA pc QA _ qc _ ((HSH.out.pairs.below (by repeat (first | exact Below.refl _ _ | assumption | refine Below.drew ?_ | refine below_drewN ?_ _ | refine Below.alloc ?_ (by first | omega | (simp; done) | (simp; omega)) _ | refine Below.setCell ?_ (by first | omega | (simp; done) | (simp; omega)) _))).more (by first | omega | (simp; done) | (simp; omega))) HSH.out.plen HSH.out.pmax).mono ?_
  rintro e w1 ⟨rfl, hb1⟩
  have bw1 : Below w.heap.size w w1 := Below.trans (by repeat (first | exact Below.refl _ _ | assumption | refine Below.drew ?_ | refine below_drewN ?_ _ | refine Below.alloc ?_ (by first | omega | (simp; done) | (simp; omega)) _ | refine Below.setCell ?_ (by first | omega | (simp; done) | (simp; omega)) _)) (hb1.mono (show w.heap.size ≤ _ from (by first | omega | (simp; done) | (simp; omega))))
  have HB1 := hid bw1
  cases hm : mayB S.pairs with
  | false =>
    have HC := hid (codeL_not (xs := xs) (S := S) (by rw [hm]; rintro ⟨h, -⟩; cases h))
    clear hm hb1
    go_wp2_with fail
    go_ret
    exact ⟨by rw [HC.out]; rfl, HB1.out⟩
  | true =>
    have HM := hid hm
    clear hm hb1
    go_wp2_with fail
    refine (HTM.out _ HB1.out).mono ?_
    rintro e w2 ⟨r, rfl, hr, hb2⟩
    have bw2 : Below w.heap.size w w2 := HB1.out.trans (hb2.mono HB1.out.size)
    have HB2 := hid bw2
    cases r with
    | false =>
      have HC := hid (codeL_not (xs := xs) (S := S) (by rintro ⟨-, h⟩; have := hr.2 h; cases this))
      clear hr hb2
      go_wp2_with fail
      go_ret
      exact ⟨by rw [HC.out]; rfl, HB2.out⟩
    | true =>
      have HR := hid (And.intro HM.out (hr.1 rfl))
      clear hr hb2
      go_wp2_with fail
      refine (HTC.out _ HB2.out).mono ?_
      rintro e w3 ⟨A', c', rfl, hb3⟩
      have bw3 : Below w.heap.size w w3 := HB2.out.trans (hb3.mono HB2.out.size)
      have HB3 := hid bw3
      clear hb3
      by_cases h12 : (picks xs).length ≤ 12
      · have HC := hid (codeL_yes HR.out h12)
        have hi : ¬ (12 : Int) < ((picks xs).length : Int) := by omega
        clear h12
        go_wp2_with fail
        go_ret
        exact ⟨by rw [HC.out]; rfl, HB3.out⟩
      · have HC := hid (codeL_many HR.out h12)
        have hi : (12 : Int) < ((picks xs).length : Int) := by omega
        clear h12
        go_wp2_with fail
        go_ret
        exact ⟨by rw [HC.out]; rfl, HB3.out⟩
/-- what Row says -/
def GivesRef (xs : List Item) (S : Shelf) (w : World) (e : Ending) (w' : World) : Prop :=
  Below w.heap.size w w' ∧ ∃ (r : List Nat) (R : Option Addr) (rc : Nat) (is whole : Bool), e = .returned (.tuple #[.slice R r.length rc, .bool is, .bool whole]) ∧ Arr numE 1 w' w'.heap.size R r ∧ r.length ≤ rc ∧ rc ≤ 9223372036854775807 ∧ Tells xs S r is whole
theorem keep3R {W W' : World} {n p : Nat} {v0 v1 v2 : Value} (hb : Below W.heap.size W W') (h1 : n < W.heap.size) (h2 : p < W.heap.size) (h : W.cell? ⟨n, 0, none⟩ = some v0 ∧ W.cell? ⟨n, 1, none⟩ = some v1 ∧ W.cell? ⟨p, 1, none⟩ = some v2) : W'.cell? ⟨n, 0, none⟩ = some v0 ∧ W'.cell? ⟨n, 1, none⟩ = some v1 ∧ W'.cell? ⟨p, 1, none⟩ = some v2 :=
  ⟨(hb.cell (p := ⟨n, 0, none⟩) h1).trans h.1, (hb.cell (p := ⟨n, 1, none⟩) h1).trans h.2.1, (hb.cell (p := ⟨p, 1, none⟩) h2).trans h.2.2⟩
theorem keep3O {lo n p : Nat} {w W w' : World} {v0 v1 v2 x0 x2 : Value} {e : TypeId} (hb : Below w.heap.size w W) (hO : Old2 lo p p W w') (h1 : n < w.heap.size) (n1 : n ≠ p) (hbox : w'.heap[p]? = some (.cells #[x0, v2, x2] e (0, 0)))
    (h : w.cell? ⟨n, 0, none⟩ = some v0 ∧ w.cell? ⟨n, 1, none⟩ = some v1 ∧ w.cell? ⟨p, 1, none⟩ = some v2) : w'.cell? ⟨n, 0, none⟩ = some v0 ∧ w'.cell? ⟨n, 1, none⟩ = some v1 ∧ w'.cell? ⟨p, 1, none⟩ = some v2 := by
  have hn := (hO.keep n (Nat.lt_of_lt_of_le h1 hb.size) n1 n1).trans (hb.block n h1)
  exact ⟨(World.cell?_of_block (a := ⟨n, 0, none⟩) hn).trans h.1, (World.cell?_of_block (a := ⟨n, 1, none⟩) hn).trans h.2.1, cell_of_row w' p 1 _ _ _ hbox⟩
set_option maxHeartbeats 4000000 in
set_option maxRecDepth 100000 in
theorem refrow_any (xs : List Item) (A : Option Addr) (c : Nat) (S : Shelf) (PA : Option Addr) (pc : Nat) (QA : Option Addr) (qc : Nat) (w : World) (h : StsRaw w w.heap.size A c xs) (hslim : ∀ x ∈ xs, Slim x) (hl : xs.length ≤ 16) (hsh : ShIn w w.heap.size PA pc QA qc S) (hsm : Small S 0) (h0 : codeL xs S = 0) :
    Calls Tryz.prog 7 #[.agg #[.slice PA S.pairs.length pc, .slice QA S.queue.length qc], .slice A xs.length c] w (GivesRef xs S w) := by
  have H := hid h
  have HSH := hid hsh
  have HL := hid hl
  have HSL := hid hslim
  have HSM := hid hsm
  have H0 := hid h0
  have hlm : (stories xs).length = xs.length := by simp [stories]
  have TC : ∀ W, Below w.heap.size w W → Calls Tryz.prog 20 #[.slice A xs.length c] W fun e w' => ∃ A' c', e = .returned (.slice A' (places xs).length c') ∧ Own numE 3 1 w' W.heap.size A' c' (places xs) ∧ Below W.heap.size W w' := fun W hW => by
    have t := counted_any (stories xs) A c W ((H.out.arr.below hW).more hW.size) (by rw [hlm]; exact H.out.cap) H.out.max (by rw [hlm]; have := HL.out; omega)
    rw [hlm] at t
    exact t
  have HTC := hid TC
  clear h hsh hl hlm TC hslim hsm h0
  go_enter Tryz.func7, Tryz.ntmps7
  go_wp2_with fail
  refine (HTC.out _ (by repeat (first | exact Below.refl _ _ | assumption | refine Below.drew ?_ | refine below_drewN ?_ _ | refine Below.alloc ?_ (by first | omega | (simp; done) | (simp; omega)) _ | refine Below.setCell ?_ (by first | omega | (simp; done) | (simp; omega)) _))).mono ?_
  rintro e w1 ⟨A', c', rfl, hown, hb1⟩
  have b0 : Below w.heap.size w (w.alloc (.cells #[.slice PA S.pairs.length pc, .slice QA S.queue.length qc] 25)) := (by repeat (first | exact Below.refl _ _ | assumption | refine Below.drew ?_ | refine below_drewN ?_ _ | refine Below.alloc ?_ (by first | omega | (simp; done) | (simp; omega)) _ | refine Below.setCell ?_ (by first | omega | (simp; done) | (simp; omega)) _))
  have bw1 : Below w.heap.size w w1 := b0.trans (hb1.mono b0.size)
  have R1 : w1.heap[w.heap.size]? = some (.cells #[.slice PA S.pairs.length pc, .slice QA S.queue.length qc] 25 (0, 0)) := (hb1.block _ (by simp)).trans ((heap_alloc_if _ _ _).trans (if_pos rfl))
  have HR1 := hid R1
  have HPL := hid (ArrX.of_arr (p := w1.heap.size) (q := w1.heap.size) (hown.arr numE_len) (Nat.le_refl _) (Nat.le_refl _) (Nat.le_refl _))
  have HPC := hid (And.intro hown.len hown.max)
  clear R1 hown
  go_upto_region 2 with fail
  generalize hw2 : World.alloc w1 _ = w2
  have B2 : w2.heap[w1.heap.size]? = some (.cells #[.slice A xs.length c, .slice A' (places xs).length c', .int .i64 200000] 62 (0, 0)) := by rw [← hw2]; exact (heap_alloc_if _ _ _).trans (if_pos rfl)
  have b2 : Below w1.heap.size w1 w2 := by rw [← hw2]; exact (Below.refl _ _).alloc (Nat.le_refl _) _
  have R2 := (b2.block _ (lt_of_heap HR1.out)).trans HR1.out
  have hw1 := lt_of_heap HR1.out
  have hp2 := lt_of_heap B2
  have bw2 : Below w.heap.size w w2 := bw1.trans (b2.mono bw1.size)
  have u0 := cell_of_row w2 _ 0 _ _ _ R2
  have u1 := cell_of_row w2 _ 1 _ _ _ R2
  have v1 := cell_of_row w2 _ 1 _ _ _ B2
  have hlT := lt_of_heap R2
  have HB2 := hid B2
  have HBW := hid bw2
  have HB12 := hid b2
  have hpl12 : (places xs).length ≤ 12 := by rw [places_len]; exact (codeL_zero.1 H0.out).2
  have MK := fun W => run_make_row' (P := Tryz.prog) 47 4 (.bool false) 1 Tryz.underlying47 info_bool rfl .i64 .i64 (places xs).length (by omega) (by omega) W
  obtain ⟨must, hmu⟩ := mustIs_some ((picks xs).map (·.s))
  have HMU := hid hmu
  have REC : Hid (∀ W, Below w2.heap.size w2 W → W.heap[w2.heap.size]? = some (.cells (madeCells #[.bool false] (places xs).length) 4 (0, 0)) → Calls Tryz.prog 21 #[.pointer (some ⟨w1.heap.size, 0, none⟩), .agg #[.slice PA S.pairs.length pc, .slice QA S.queue.length qc], .slice (some ⟨w2.heap.size, 0, none⟩) (places xs).length (places xs).length, .slice none 0 0] W (GivesGo w.heap.size w1.heap.size xs must A c A' c' 0 S [] 200000 W)) := hid fun W hW hd => by
    have hz := hW.size
    have hs2 := b2.size
    have hz1 := bw1.size
    have bW : Below w.heap.size w W := HBW.out.trans (hW.mono HBW.out.size)
    obtain ⟨hmay, h12⟩ := codeL_zero.1 H0.out
    have hgo := goOn_any w.heap.size w1.heap.size xs must A c A' c' _ 0 S PA pc QA qc (List.replicate (places xs).length false) (some ⟨w2.heap.size, 0, none⟩) (places xs).length [] none 0 200000 W rfl ⟨(hW.block _ hp2).trans HB2.out, by omega, ⟨H.out.arr.below bW, fun x hx => (H.out.each x hx).below bW, H.out.cap, H.out.max⟩, HSL.out, HPL.out.old (Old2.of_below (lo := w1.heap.size) ((b2.trans (hW.mono hs2))) (Nat.le_refl _)), HPC.out, ShX.of_in ((HSH.out.below bW)) (by omega) (by omega) (by omega), by rw [cntD_zero]; exact HSM.out, ?_, ⟨by rw [List.length_replicate, places_len], fun j hj => by rw [List.getElem_replicate, Nat.zero_testBit]⟩, by rw [List.length_replicate]; exact ⟨Nat.le_refl _, by omega⟩, .inl rfl, ⟨Nat.le_refl _, by omega⟩, by simp, Nat.le_refl _, hmu, fun i hi => by simp at hi, h12, HL.out, picks_self hmay.2⟩
    · rw [List.length_replicate] at hgo
      exact hgo
    · refine .inr ⟨w2.heap.size, 0, rfl, ⟨lt_of_heap hd, by omega, by omega⟩, fun i hi j u hu => ?_⟩
      rw [List.length_replicate] at hi
      rw [List.getElem_replicate] at hu
      have hj : j = 0 := by
        have := (List.getElem?_eq_some_iff.1 hu).1
        rw [bit_len] at this
        omega
      subst hj
      rw [cell_of_row W _ _ _ _ _ hd, ← Array.getElem?_toList, toList_madeCells_one, List.getElem?_replicate, if_pos (by omega)]
      exact hu
  have HHK := hid (And.intro u0 (And.intro u1 v1))
  have hw2s : w1.heap.size ≠ w.heap.size := by omega
  clear hw2 b2 B2 R2 hmu hb1 b0
  go_cut [8, 9] (fun v8 v9 wx => ∃ (W : World) (left' : Nat) (r : List Nat) (R : Option Addr) (rc : Nat) (ok : Bool), v8 = .slice R r.length rc ∧ v9 = .bool ok ∧ Below w2.heap.size w2 W ∧ Hid (Old2 w.heap.size w1.heap.size w1.heap.size W wx ∧ left' ≤ 200000 ∧ wx.heap[w1.heap.size]? = some (.cells #[.slice A xs.length c, .slice A' (places xs).length c', .int .i64 (left' : Int)] 62 (0, 0)) ∧ ArrX numE 1 w1.heap.size w1.heap.size wx R r ∧ r.length ≤ rc ∧ rc ≤ 9223372036854775807 ∧ r.length ≤ 12 ∧ (0 < left' → (ok = true → ∃ T', Least (picks xs) must 0 S T' ∧ r = [] ++ told xs T') ∧ (ok = false → ¬ Leads (picks xs) must 0 S ∧ r = []))))
  case first =>
    go_region_held3 (fun W => W.cell? ⟨w.heap.size, 0, none⟩ = some (.slice PA S.pairs.length pc) ∧ W.cell? ⟨w.heap.size, 1, none⟩ = some (.slice QA S.queue.length qc) ∧ W.cell? ⟨w1.heap.size, 1, none⟩ = some (.slice A' (places xs).length c')) (first | exact hKeep | exact keep3R (W := w2) (by repeat (first | with_reducible exact Below.refl _ _ | with_reducible assumption | with_reducible refine Below.drew ?_ | with_reducible refine below_drewN ?_ _ | with_reducible refine Below.alloc ?_ (by first | omega | (simp; done) | (simp; omega)) _ | with_reducible refine Below.setCell ?_ (by first | omega | (simp; done) | (simp; omega)) _)) hlT hp2 HHK.out) (first | (go_at_call 21; refine (REC.out _ (by repeat (first | with_reducible exact Below.refl _ _ | with_reducible assumption | with_reducible refine Below.drew ?_ | with_reducible refine below_drewN ?_ _ | with_reducible refine Below.alloc ?_ (by first | omega | (simp; done) | (simp; omega)) _ | with_reducible refine Below.setCell ?_ (by first | omega | (simp; done) | (simp; omega)) _)) (by first | (rw [heap_alloc_if, if_pos (by simp)]; done) | (rw [heap_alloc_if, if_pos (by simp)]; rfl) | exact (heap_alloc_if _ _ _).trans (if_pos rfl))).mono ?_; rintro e wG ⟨hOG, lG, rG, RG, rcG, okG, rfl, hG⟩; have hKeep := keep3O (w := w2) (by repeat (first | with_reducible exact Below.refl _ _ | with_reducible assumption | with_reducible refine Below.drew ?_ | with_reducible refine below_drewN ?_ _ | with_reducible refine Below.alloc ?_ (by first | omega | (simp; done) | (simp; omega)) _ | with_reducible refine Below.setCell ?_ (by first | omega | (simp; done) | (simp; omega)) _)) hOG hlT hw2s.symm hG.2.1 HHK.out) | fail)
    all_goals
      go_wp2_with fail
      go_meet
      exact ⟨_, lG, rG, RG, rcG, okG, rfl, rfl, (by repeat (first | with_reducible exact Below.refl _ _ | with_reducible assumption | with_reducible refine Below.drew ?_ | with_reducible refine below_drewN ?_ _ | with_reducible refine Below.alloc ?_ (by first | omega | (simp; done) | (simp; omega)) _ | with_reducible refine Below.setCell ?_ (by first | omega | (simp; done) | (simp; omega)) _)), hid ⟨hOG, hG⟩⟩
  case rest =>
    obtain ⟨W, left', r, R, rc', ok, rfl, rfl, bW, hG⟩ := hcut
    obtain ⟨w3, hw3⟩ : ∃ x, x = wc := ⟨_, rfl⟩
    subst hw3
    have bw3 : Below w.heap.size w w3 := HBW.out.trans ((bW.mono HBW.out.size).trans hG.out.1.below)
    have B3 := hG.out.2.2.1
    have q2 := cell_of_row w3 _ 2 _ _ _ B3
    have hp3 := lt_of_heap B3
    have HB3 := hid bw3
    have HTL := hid (tells_search HMU.out H0.out hG.out.2.2.2.2.2.2.2)
    have HAR := hid hG.out.2.2.2.1.arr
    have HRC := hid (And.intro hG.out.2.2.2.2.1 hG.out.2.2.2.2.2.1)
    clear u0 u1 v1 B3 REC MK hG bw3 bW
    by_cases h0 : 0 < left'
    · have hi : (0 : Int) < (left' : Int) := by omega
      have hd : decide (0 < left') = true := by rw [decide_eq_true_iff]; exact h0
      have HD := hid hd
      clear hd
      go_wp2_with fail
      go_region
      all_goals
        go_wp2_with fail
        have bw3 := HB3.out
        refine bodyPost_ret (v := .tuple #[.slice R r.length rc', .bool ok, .bool true]) (by simp [results, Tryz.results7]) rfl ⟨(by repeat (first | with_reducible exact Below.refl _ _ | with_reducible assumption | with_reducible refine Below.drew ?_ | with_reducible refine below_drewN ?_ _ | with_reducible refine Below.alloc ?_ (by first | omega | (simp; done) | (simp; omega)) _ | with_reducible refine Below.setCell ?_ (by first | omega | (simp; done) | (simp; omega)) _)), r, R, rc', ok, true, rfl, ?_, HRC.out.1, HRC.out.2, by have h := HTL.out; rw [HD.out] at h; exact h⟩
        exact HAR.out.below (by repeat (first | exact Below.refl _ _ | assumption | refine Below.drew ?_ | refine below_drewN ?_ _ | refine Below.alloc ?_ (by first | omega | (simp; done) | (simp; omega)) _ | refine Below.setCell ?_ (by first | omega | (simp; done) | (simp; omega)) _))
    · have hi : ¬ (0 : Int) < (left' : Int) := by omega
      have hd : decide (0 < left') = false := by rw [decide_eq_false_iff_not]; exact h0
      have HD := hid hd
      clear hd
      go_wp2_with fail
      go_region
      all_goals
        go_wp2_with fail
        have bw3 := HB3.out
        refine bodyPost_ret (v := .tuple #[.slice R r.length rc', .bool ok, .bool false]) (by simp [results, Tryz.results7]) rfl ⟨(by repeat (first | with_reducible exact Below.refl _ _ | with_reducible assumption | with_reducible refine Below.drew ?_ | with_reducible refine below_drewN ?_ _ | with_reducible refine Below.alloc ?_ (by first | omega | (simp; done) | (simp; omega)) _ | with_reducible refine Below.setCell ?_ (by first | omega | (simp; done) | (simp; omega)) _)), r, R, rc', ok, false, rfl, ?_, HRC.out.1, HRC.out.2, by have h := HTL.out; rw [HD.out] at h; exact h⟩
        exact HAR.out.below (by repeat (first | exact Below.refl _ _ | assumption | refine Below.drew ?_ | refine below_drewN ?_ _ | refine Below.alloc ?_ (by first | omega | (simp; done) | (simp; omega)) _ | refine Below.setCell ?_ (by first | omega | (simp; done) | (simp; omega)) _))
end Go.Proofs.YtamcehfcjcmpmaaGreatDoor
