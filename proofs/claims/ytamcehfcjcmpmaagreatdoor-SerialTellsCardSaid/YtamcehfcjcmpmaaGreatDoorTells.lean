/- SerialTells: the statement's walk. -/
import Derived.Test.YtamcehfcjcmpmaaGreatDoorZrw
import Derived.Test.YtamcehfcjcmpmaaGreatDoorCopyS
import Derived.Deep.DeepCutAuto
namespace Go.Proofs.YtamcehfcjcmpmaaGreatDoor
open Go.RowKit

set_option maxHeartbeats 4000000 in
set_option maxRecDepth 100000 in
theorem serialTells_any (s : Shelf) (PA : Option Addr) (pc : Nat) (QA : Option Addr) (qc : Nat) (xs : List Item) (A : Option Addr) (c : Nat) (w : World) (h : ShIn w w.heap.size PA pc QA qc s) (hx : StsRaw w w.heap.size A c xs) (htab : Tab w.heap.size w) :
    Calls Tryz.prog 3 #[.agg #[.slice PA s.pairs.length pc, .slice QA s.queue.length qc], .slice A xs.length c] w fun e w' => e = .returned (.bool true) ∧ Below w.heap.size w w' := by
  have H := hid h
  have HX := hid hx
  have HT := hid htab
  clear h hx htab
  go_enter Tryz.func3, Tryz.ntmps3
  go_wp2_with fail
  have b0 : Below w.heap.size w (w.alloc (.cells #[.slice PA s.pairs.length pc, .slice QA s.queue.length qc] 25)) := (by repeat (first | exact Below.refl _ _ | assumption | refine Below.drew ?_ | refine below_drewN ?_ _ | refine Below.alloc ?_ (by first | omega | (simp; done) | (simp; omega)) _ | refine Below.setCell ?_ (by first | omega | (simp; done) | (simp; omega)) _))
  have R0 : (w.alloc (.cells #[.slice PA s.pairs.length pc, .slice QA s.queue.length qc] 25)).heap[w.heap.size]? = some (.cells #[.slice PA s.pairs.length pc, .slice QA s.queue.length qc] 25 (0, 0)) := (heap_alloc_if _ _ _).trans (if_pos rfl)
  have HR0 := hid R0
  have HB0 := hid b0
  refine (large25_any s PA pc QA qc xs A c _ ((H.out.below b0).more b0.size) ⟨(HX.out.arr.below b0).more b0.size, fun x hx => ((HX.out.each x hx).below b0).more b0.size, HX.out.cap, HX.out.max⟩).mono ?_
  rintro e w1 ⟨big, rfl, hb1, hbig⟩
  have bw1 : Below w.heap.size w w1 := HB0.out.trans (hb1.mono HB0.out.size)
  have R1 := (hb1.block _ (lt_of_heap HR0.out)).trans HR0.out
  have HBIG := hid hbig
  have HR1 := hid R1
  have HB1 := hid bw1
  have u0 := cell_of_row w1 _ 0 _ _ _ R1
  have u1 := cell_of_row w1 _ 1 _ _ _ R1
  have l1 := lt_of_heap R1
  clear R0 b0 hb1 R1 bw1 hbig
  cases big with
  | true =>
    go_wp2_with fail
    refine (awake25 _ (HT.out.up HB1.out)).mono ?_
    rintro e wZ ⟨rfl, hbZ⟩
    go_wp2_with fail
    go_ret
    exact ⟨rfl, HB1.out.trans (hbZ.mono HB1.out.size)⟩
  | false =>
  have HNL := hid (HBIG.out rfl)
  clear HBIG
  go_wp2_with fail
  refine (wrong_any xs A c s PA pc QA qc _ ⟨(HX.out.arr.below HB1.out).more HB1.out.size, fun x hx => ((HX.out.each x hx).below HB1.out).more HB1.out.size, HX.out.cap, HX.out.max⟩ HNL.out.len ((H.out.below HB1.out).more HB1.out.size)).mono ?_
  rintro e w2 ⟨rfl, hb2⟩
  have bw2 : Below w.heap.size w w2 := HB1.out.trans (hb2.mono HB1.out.size)
  have R2 := (hb2.block _ l1).trans HR1.out
  have HR2 := hid R2
  have HB2 := hid bw2
  clear u0 u1 hb2 bw2
  have u0 := cell_of_row w2 _ 0 _ _ _ R2
  have u1 := cell_of_row w2 _ 1 _ _ _ R2
  have l2 := lt_of_heap R2
  clear R2 l1
  obtain ⟨code, hcode⟩ : ∃ code, code = codeL xs s := ⟨_, rfl⟩
  rw [← hcode]
  have HCODE := hid hcode
  clear hcode
  go_upto_if 22 with fail
  go_cut [6, 7, 8] (fun v6 v7 v8 wx => ∃ (r : List Nat) (R : Option Addr) (rc : Nat) (is whole : Bool), v6 = .slice R r.length rc ∧ v7 = .bool is ∧ v8 = .bool whole ∧ Below w2.heap.size w2 wx ∧ Hid (Arr numE 1 wx wx.heap.size R r ∧ r.length ≤ rc ∧ rc ≤ 9223372036854775807 ∧ Tells xs s r is whole))
  case first =>
    by_cases h0 : code = 0
    · have HT0 := hid (refrow_any xs A c s PA pc QA qc w2 ⟨(HX.out.arr.below HB2.out).more HB2.out.size, fun x hx => ((HX.out.each x hx).below HB2.out).more HB2.out.size, HX.out.cap, HX.out.max⟩ HNL.out.each HNL.out.len ((H.out.below HB2.out).more HB2.out.size) HNL.out.small (by rw [← HCODE.out]; exact h0))
      subst h0
      go_wp2_with fail
      refine HT0.out.mono ?_
      rintro e w3 ⟨hb3, r, R, rc, is, whole, rfl, harr, hrc, hrm, ht⟩
      have HH := hid (And.intro harr (And.intro hrc (And.intro hrm ht)))
      clear harr hrc hrm ht
      go_wp2_with fail
      go_meet
      exact ⟨r, R, rc, is, whole, rfl, rfl, rfl, hb3, HH⟩
    · have hne : (code == 0) = false := by simpa using h0
      have HH := hid (tells_none (xs := xs) (S := s) (by rw [← HCODE.out]; exact h0))
      clear h0
      go_wp2_with fail
      go_meet
      exact ⟨[], none, 0, false, true, rfl, rfl, rfl, Below.refl _ _, hid ⟨.inl rfl, Nat.le_refl _, by omega, HH.out⟩⟩
  case rest =>
  obtain ⟨r, R, rc, is, whole, rfl, rfl, rfl, b3, hH⟩ := hcut
  obtain ⟨w3, hw3⟩ : ∃ x, x = wc := ⟨_, rfl⟩
  subst hw3
  have bw3 : Below w.heap.size w w3 := HB2.out.trans (b3.mono HB2.out.size)
  have R3 := (b3.block _ l2).trans HR2.out
  have HR3 := hid R3
  have HB3 := hid bw3
  clear u0 u1 bw3 b3
  have u0 := cell_of_row w3 _ 0 _ _ _ R3
  have u1 := cell_of_row w3 _ 1 _ _ _ R3
  have l3 := lt_of_heap R3
  clear R3 l2
  cases whole with
  | false =>
    clear hH
    go_wp2_with fail
    refine (awake25 _ (HT.out.up HB3.out)).mono ?_
    rintro e wZ ⟨rfl, hbZ⟩
    go_wp2_with fail
    go_ret
    exact ⟨rfl, HB3.out.trans (hbZ.mono HB3.out.size)⟩
  | true =>
  have h20 := HNL.out.pl
  have h21 := HNL.out.ql
  go_wp2_with fail
  refine (copyShelf_any s PA pc QA qc _ ((H.out.below HB3.out).more HB3.out.size) (by omega) (by omega)).mono ?_
  rintro e w4 ⟨AP, cP, AQ, cQ, rfl, hS4, b4⟩
  have bw4 : Below w.heap.size w w4 := HB3.out.trans (b4.mono HB3.out.size)
  have R4 := (b4.block _ l3).trans HR3.out
  have HB4 := hid bw4
  have HR4 := hid R4
  have HS4 := hid hS4
  have st34 := hid b4
  have l4 := lt_of_heap R4
  clear u0 u1 R4 bw4 hS4 b4 h20 h21
  go_upto_region 11 with fail
  generalize hw5 : World.alloc w4 _ = w5
  have N5 : w5.heap[w4.heap.size]? = some (.cells #[.slice AP s.pairs.length cP, .slice AQ s.queue.length cQ] 25 (0, 0)) := by rw [← hw5]; exact (heap_alloc_if _ _ _).trans (if_pos rfl)
  have b45 : Below w4.heap.size w4 w5 := by rw [← hw5]; exact (Below.refl _ _).alloc (Nat.le_refl _) _
  have HIN5 : Hid (ShIn w5 w5.heap.size AP cP AQ cQ s) := hid (((show ShIn w4 w4.heap.size AP cP AQ cQ s from ⟨HS4.out.pairs.arr Pair.enc_len, HS4.out.pairs.len, HS4.out.pairs.max, HS4.out.queue.arr txt_len, HS4.out.queue.len, HS4.out.queue.max⟩).below b45).more b45.size)
  have bw5 : Below w.heap.size w w5 := HB4.out.trans (b45.mono HB4.out.size)
  have R5 := (b45.block _ l4).trans HR4.out
  have st35 := hid (st34.out.trans (b45.mono st34.out.size))
  have HN5 := hid N5
  have HR5 := hid R5
  have HB5 := hid bw5
  have n0 := cell_of_row w5 _ 0 _ _ _ N5
  have n1 := cell_of_row w5 _ 1 _ _ _ N5
  have l5 := lt_of_heap N5
  have l5' := lt_of_heap R5
  clear hw5 N5 b45 R5 bw5 l4 HS4 st34
  have STS : ∀ W, Below w.heap.size w W → StsIn W W.heap.size A c xs := fun W hW => (StsRaw.stsIn ⟨(HX.out.arr.below hW).more hW.size, fun x hx => ((HX.out.each x hx).below hW).more hW.size, HX.out.cap, HX.out.max⟩ HNL.out.each)
  have HSTS := hid STS
  have h60 : xs.length ≤ 60 := by have := HNL.out.len; omega
  have H60 := hid h60
  clear STS h60
  go_wp2_with fail
  refine (legal_any xs A c s AP cP AQ cQ _ (HSTS.out _ HB5.out) H60.out HIN5.out HNL.out.small (HT.out.up HB5.out)).mono ?_
  rintro e w6 hG
  obtain ⟨b6, x, rfl, hx⟩ := hG.tells
  have bw6 : Below w.heap.size w w6 := HB5.out.trans (b6.mono HB5.out.size)
  have N6 := (b6.block _ l5).trans HN5.out
  have R6 := (b6.block _ l5').trans HR5.out
  have HXG := hid hx
  have HN6 := hid N6
  have HR6 := hid R6
  have HB6 := hid bw6
  have HIN6 := hid ((HIN5.out.below b6).more b6.size)
  have st36 := hid (st35.out.trans (b6.mono st35.out.size))
  rw [← HCODE.out]
  clear n0 n1 hG b6 hx R6 bw6 st35 HIN5
  have n0 := cell_of_row w6 _ 0 _ _ _ N6
  have n1 := cell_of_row w6 _ 1 _ _ _ N6
  have l6 := lt_of_heap N6
  have l6' := lt_of_heap HR6.out
  clear N6 l5 l5'
  go_wp2_with fail
  refine (row_any xs A c s AP cP AQ cQ _ (HSTS.out _ HB6.out) H60.out HIN6.out HNL.out.small (HT.out.up HB6.out)).mono ?_
  rintro e w7 hG
  obtain ⟨b7, his, A7, c7, rfl, hown, hr12⟩ := tells_row hH.out.2.2.2 hG
  obtain rfl : x = is := by rw [Bool.eq_iff_iff]; exact HXG.out.trans his.symm
  have bw7 : Below w.heap.size w w7 := HB6.out.trans (b7.mono HB6.out.size)
  have N7 := (b7.block _ l6).trans HN6.out
  have R7 := (b7.block _ l6').trans HR6.out
  have HN7 := hid N7
  have HR7 := hid R7
  have HB7 := hid bw7
  have st67 := hid b7
  have HOWN := hid hown
  have HR12 := hid hr12
  have HIN7 := hid ((HIN6.out.below b7).more b7.size)
  have HRA := hid ((hH.out.1.below (st36.out.trans (b7.mono st36.out.size))).more (st36.out.trans (b7.mono st36.out.size)).size)
  have HRL := hid (And.intro hH.out.2.1 hH.out.2.2.1)
  clear n0 n1 hG b7 his N7 R7 bw7 hown hr12 hH HXG
  have HNU := hid (fun W => lawNum_any code W)
  have hcc : (code != code) = false := by simp
  have l7 := lt_of_heap HN7.out
  have l7' := lt_of_heap HR7.out
  have HEND := hid (And.intro l6 l6')
  clear l6 l6'
  cases x
  all_goals
    go_wp2_with (first | (go_at_call 11; refine (HNU.out _).mono ?_; rintro e wN ⟨rfl, bN⟩) | fail)
    refine (sameI_any r r A7 R c7 rc wN (((HOWN.out.arr numE_len).below bN).more bN.size) ((HRA.out.below bN).more bN.size) HOWN.out.len HOWN.out.max HRL.out.1 HRL.out.2).mono ?_
    rintro e w8 ⟨rfl, b8⟩
    rw [decide_eq_true (rfl : r = r)]
    have b78 := hid (bN.trans (b8.mono bN.size))
    clear bN b8
    go_wp2_with fail
    refine (overInts_any r w6.heap.size A7 c7 w8 (HOWN.out.below b78.out) (Nat.le_trans st67.out.size b78.out.size) (by have := HR12.out; omega)).mono ?_
    rintro e w9 ⟨rfl, b9⟩
    have b69 : Below w6.heap.size w6 w9 := st67.out.trans ((b78.out.mono st67.out.size).trans b9)
    have N9 := (b69.block _ HEND.out.1).trans HN6.out
    have R9 := (b69.block _ HEND.out.2).trans HR6.out
    have bw9 : Below w.heap.size w w9 := HB6.out.trans (b69.mono HB6.out.size)
    have HS9 := hid ((HIN6.out.below b69).more b69.size)
    have HB9 := hid bw9
    have n0 := cell_of_row w9 _ 0 _ _ _ N9
    have n1 := cell_of_row w9 _ 1 _ _ _ N9
    have u0 := cell_of_row w9 _ 0 _ _ _ R9
    have u1 := cell_of_row w9 _ 1 _ _ _ R9
    have l9 := lt_of_heap N9
    have l9' := lt_of_heap R9
    clear l7 l7' b9 b69 N9 R9 bw9
    go_wp2_with fail
    refine (sameS_any s s AP cP AQ cQ PA pc QA qc w9 HS9.out ((H.out.below HB9.out).more HB9.out.size)).mono ?_
    rintro e w10 ⟨rfl, b10⟩
    rw [sameS_refl]
    have HB10 := hid (HB9.out.trans (b10.mono HB9.out.size))
    clear b10
    go_wp2_with fail
    refine (awake25 _ (HT.out.up HB10.out)).mono ?_
    rintro e wZ ⟨rfl, hbZ⟩
    go_wp2_with fail
    go_ret
    exact ⟨rfl, HB10.out.trans (hbZ.mono HB10.out.size)⟩
end Go.Proofs.YtamcehfcjcmpmaaGreatDoor
