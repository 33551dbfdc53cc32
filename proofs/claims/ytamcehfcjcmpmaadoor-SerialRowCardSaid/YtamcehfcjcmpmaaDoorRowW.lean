/- The statement SerialRow: the walk. -/
import Derived.Test.YtamcehfcjcmpmaaDoorRowM
import Derived.Test.YtamcehfcjcmpmaaDoorOneM
import Derived.StillTailTactics
import Derived.Deep.DeepCutAuto
namespace Go.Proofs.YtamcehfcjcmpmaaDoor
open Go.RowKit

set_option maxHeartbeats 4000000 in
set_option maxRecDepth 100000 in
theorem serialRow_any (s : Shelf) (PA : Option Addr) (pc : Nat) (QA : Option Addr) (qc : Nat) (xs : List Item) (A : Option Addr) (c : Nat) (w : World) (hs : ShIn w w.heap.size PA pc QA qc s) (hx : StsRaw w w.heap.size A c xs) (htab : Tab w.heap.size w) :
    Calls Tryd.prog 8 #[.agg #[.slice PA s.pairs.length pc, .slice QA s.queue.length qc], .slice A xs.length c] w fun e w' => e = .returned (.bool true) ∧ Below w.heap.size w w' := by
  have HT := hid htab
  have HS := hid hs
  have HX := hid hx
  have hcc := hx.cap
  have hcm := hx.max
  clear htab hs hx
  have AW : ∀ W, Below w.heap.size w W → Calls Tryd.prog 11 #[] W fun e w' => e = .returned (.bool true) ∧ Below W.heap.size W w' := fun W hW => awake25 W (HT.out.up hW)
  go_enter Tryd.func8, Tryd.ntmps8
  go_wp2_with fail
  have b0 : Below w.heap.size w (w.alloc (.cells #[.slice PA s.pairs.length pc, .slice QA s.queue.length qc] 25)) := (by repeat (first | exact Below.refl _ _ | assumption | refine Below.drew ?_ | refine below_drewN ?_ _ | refine Below.alloc ?_ (by first | omega | (simp; done) | (simp; omega)) _ | refine Below.setCell ?_ (by first | omega | (simp; done) | (simp; omega)) _))
  refine (large25_any s PA pc QA qc xs A c _ ((HS.out.below b0).more b0.size) ⟨(HX.out.arr.below b0).more b0.size, fun x hx => ((HX.out.each x hx).below b0).more b0.size, hcc, hcm⟩).mono ?_
  rintro e w1 ⟨r1, rfl, hb1, hl1⟩
  have bw1 : Below w.heap.size w w1 := b0.trans (hb1.mono b0.size)
  have R1 : w1.heap[w.heap.size]? = some (.cells #[.slice PA s.pairs.length pc, .slice QA s.queue.length qc] 25 (0, 0)) := (hb1.block _ (by simp)).trans ((heap_alloc_if _ _ _).trans (if_pos rfl))
  have q0 := cell_of_row w1 _ 0 _ _ _ R1
  have q1 := cell_of_row w1 _ 1 _ _ _ R1
  have ql := lt_of_heap R1
  clear hb1 b0
  cases r1 with
  | true =>
    clear hl1
    go_wp2_with fail
    refine (AW _ bw1).mono ?_
    rintro e w2 ⟨rfl, hb2⟩
    go_wp2_with fail
    go_ret
    exact ⟨rfl, bw1.trans (hb2.mono bw1.size)⟩
  | false =>
  have HNL := hid (hl1 rfl)
  clear hl1
  by_cases g1 : (12 : Int) < (xs.length : Int)
  · go_wp2_with fail
    refine (AW _ bw1).mono ?_
    rintro e w2 ⟨rfl, hb2⟩
    go_wp2_with fail
    go_ret
    exact ⟨rfl, bw1.trans (hb2.mono bw1.size)⟩
  have hl12 : xs.length ≤ 12 := by omega
  have hsts : StsIn w w.heap.size A c xs := HX.out.stsIn HNL.out.each
  have HSTS := hid hsts
  clear hsts
  go_wp2_with fail
  refine (row_any xs A c s PA pc QA qc _ (HSTS.out.up bw1) (by omega) ((HS.out.below bw1).more bw1.size) HNL.out.small (HT.out.up bw1)).mono ?_
  rintro e w2 ⟨hb2, hrow⟩
  have bw2 : Below w.heap.size w w2 := bw1.trans (hb2.mono bw1.size)
  have R2 := (hb2.block _ ql).trans R1
  clear q0 q1 ql R1 g1
  have q0 := cell_of_row w2 _ 0 _ _ _ R2
  have q1 := cell_of_row w2 _ 1 _ _ _ R2
  have ql := lt_of_heap R2
  have LG := legal_any xs A c s PA pc QA qc w2 (HSTS.out.up bw2) (by omega) ((HS.out.below bw2).more bw2.size) HNL.out.small (HT.out.up bw2)
  rcases hrow with ⟨rfl, hno⟩ | ⟨hgood, must, R, A5, c5, rfl, hown, hmu, hleast⟩
  · have HNO := hid hno
    clear hno
    go_wp2_with fail
    refine LG.mono ?_
    rintro e w3 hG
    obtain ⟨hb3, r, code, rfl, hr⟩ := hG.good
    have hr' : r = false := by
      cases r with
      | false => rfl
      | true => exact absurd (hr.1 rfl) HNO.out
    have bw3 : Below w.heap.size w w3 := bw2.trans (hb3.mono bw2.size)
    subst hr'
    clear hr hG LG
    go_wp2_with fail
    refine (AW _ bw3).mono ?_
    rintro e w4 ⟨rfl, hb4⟩
    go_wp2_with fail
    go_ret
    exact ⟨rfl, bw3.trans (hb4.mono bw3.size)⟩
  have HGOOD := hid hgood
  have hrx := rowX_of_path hmu hleast.path
  obtain ⟨rr, hrr⟩ : ∃ rr, rr = told xs R := ⟨_, rfl⟩
  rw [← hrr] at hrx hown ⊢
  have HRX := hid hrx
  have HOWN := hid hown
  clear hmu hleast hrr hgood hrx hown
  go_wp2_with fail
  refine LG.mono ?_
  rintro e w3 hG
  obtain ⟨hb3, r, code, rfl, hr⟩ := hG.good
  have hr' : r = true := hr.2 HGOOD.out
  have bw3 : Below w.heap.size w w3 := bw2.trans (hb3.mono bw2.size)
  subst hr'
  have R3 := (hb3.block _ ql).trans R2
  have HOWN3 := hid (HOWN.out.below hb3)
  clear hr hG LG q0 q1 ql R2 hb2 hb3 HOWN bw1
  have q0 := cell_of_row w3 _ 0 _ _ _ R3
  have q1 := cell_of_row w3 _ 1 _ _ _ R3
  have ql := lt_of_heap R3
  go_upto_region 9 with fail
  generalize hw4 : World.alloc (World.alloc w3 _) _ = w4
  have I4 : w4.heap[w3.heap.size]? = some (.cells (marks (rr.take 0)).toArray 60 (0, 0)) := by rw [← hw4]; exact (Below.heap_alloc _ _ _ (by simp)).trans ((heap_alloc_if _ _ _).trans (by rw [if_pos rfl]; rfl))
  have P4 : w4.heap[w3.heap.size + 1]? = some (.cells #[.slice PA s.pairs.length pc, .slice QA s.queue.length qc] 25 (0, 0)) := by rw [← hw4]; exact (heap_alloc_if _ _ _).trans (by rw [if_pos (by simp)])
  have st4 : Below w3.heap.size w3 w4 := by rw [← hw4]; exact ((Below.refl _ _).alloc (Nat.le_refl _) _).alloc (by simp) _
  have bw4 : Below w.heap.size w w4 := bw3.trans (st4.mono bw3.size)
  obtain ⟨p, hp⟩ : ∃ p, p = w3.heap.size := ⟨_, rfl⟩
  have hwp : w.heap.size ≤ p := by rw [hp]; exact bw3.size
  have HR0 := hid (show RInv w.heap.size p (p + 1) xs s rr w4 w4 0 PA pc QA qc from ⟨by rw [hp]; exact I4, by rw [hp]; exact P4, ShX.of_in (HS.out.below bw4) bw4.size hwp (by omega), Old2.refl _ _ _ _, by simpa [runR] using HNL.out.small⟩)
  have HRA := hid (show ArrX numE 1 p (p + 1) w4 A5 rr from ArrX.of_arr ((HOWN3.out.arr numE_len).below st4) st4.size (by omega) (by omega))
  have hrc := HOWN3.out.len
  have hrm := HOWN3.out.max
  rw [← hp]
  clear hw4 I4 P4 st4 q0 q1 ql R3 hp bw3 bw2 HOWN3
  go_wp2_with fail
  go_loopw [11] (fun v11 wr => ∃ (n : Nat) (PT : Option Addr) (tc : Nat) (QT : Option Addr) (uc : Nat), n ≤ rr.length ∧ v11 = .int .i64 n ∧ RInv w.heap.size p (p + 1) xs s rr w4 wr n PT tc QT uc) (fun v11 _ => rr.length - (intOf v11).toNat)
  case atStart => exact ⟨0, PA, pc, QA, qc, Nat.zero_le _, rfl, HR0.out⟩
  case round =>
    clear HR0
    obtain ⟨n, PT, tc, QT, uc, hn, rfl, hI⟩ := hrel
    obtain ⟨wo, hwo⟩ : ∃ x, x = wr := ⟨_, rfl⟩
    subst hwo
    have HI := hid hI
    have bwo : Below w.heap.size w wo := bw4.trans hI.old.below
    have hsz := bwo.size
    have hsz4 : p < wo.heap.size := lt_of_heap hI.ins
    have hsz5 : p + 1 < wo.heap.size := lt_of_heap hI.row
    clear hI
    by_cases hlt : n < rr.length
    · have hk := HRX.out.lt n hlt
      obtain ⟨x, hxx⟩ : ∃ x, x = xs[rr[n]] := ⟨_, rfl⟩
      have hcount : countsB x.s = true := by rw [hxx]; exact HRX.out.counts n hlt hk
      have HOK : Hid (x.ok (runR xs s (rr.take n)) = true) := hid (by rw [hxx]; exact HRX.out.ok n hlt hk)
      have HBEF : Hid (∀ j (_ : j < n) (hr : j < rr.length) (h2 : rr[j] < xs.length), befB x.s xs[rr[j]].s = false) := hid fun j hj hr h2 => by rw [hxx]; exact HRX.out.bef n hlt j hj hk h2
      have HNEXT : Hid (runR xs s (rr.take (n + 1)) = x.next (runR xs s (rr.take n))) := hid (by rw [hxx]; exact runR_next (xs := xs) (s := s) hlt hk)
      have HRAW : Hid (StRaw w w.heap.size x ∧ Slim x) := hid ⟨by rw [hxx]; exact HX.out.each _ (List.getElem_mem hk), by rw [hxx]; exact HNL.out.each _ (List.getElem_mem hk)⟩
      obtain ⟨rb, ro, hA, hBb, d0⟩ := ((HRA.out.old HI.out.old).arr).numE1 hlt
      have HTK : Hid (rr.take (n + 1) = rr.take n ++ [rr[n]]) := hid (List.take_succ_eq_append_getElem hlt)
      have hnin : decide (rr[n] ∈ rr.take n) = false := by
        rw [decide_eq_false_iff_not]
        intro hm
        obtain ⟨j, hj, e⟩ := List.getElem_of_mem hm
        rw [List.length_take] at hj
        rw [List.getElem_take] at e
        exact HRX.out.ne n hlt j (by omega) e
      have HXE : Hid (∀ h : rr[n] < xs.length, xs[rr[n]] = x) := hid fun _ => hxx.symm
      have hkst : rr[n] < (stories xs).length := by simp [stories]; exact hk
      obtain ⟨b, off, hA2, hB2, hcells⟩ := (HX.out.arr.below bwo).story hkst
      rw [stories_get xs _ hkst hk, ← hxx] at hcells
      subst hA2
      subst hA
      have cin : wo.cell? ⟨p, rr[n], none⟩ = some (.bool false) := by
        rw [← hnin]
        have h1 := cell_of_row wo p rr[n] _ _ _ HI.out.ins
        rw [h1, ← Array.getElem?_toList]
        exact marks_get (by omega)
      have fin := frozen_of_row wo p rr[n] _ _ HI.out.ins
      have hbo : b < wo.heap.size := by omega
      have hC : x.s.en < 0 ∨ x.s.code = 0 := by
        unfold countsB at hcount
        rw [Bool.and_eq_true, Bool.or_eq_true, decide_eq_true_iff, decide_eq_true_iff] at hcount
        exact hcount.2
      have HC := hid hC
      have hk12 : rr[n] < 12 := by omega
      clear hC hnin hcount hxx hkst
      generalize rr[n] = k at *
      obtain ⟨c0, c1, c2, c3, c4, c5', c6, c7, c8, c9, c10, c11, c12, c13⟩ := hcells
      go_upto_region 13 with fail
      go_cut [92] (fun v92 wx => v92 = .bool false ∧ wx = wo)
      case first =>
        have g0 : ¬ ((k : Nat) : Int) < 0 := by omega
        have g1 : ¬ ((xs.length : Nat) : Int) ≤ (k : Int) := by omega
        have hC := HC.out
        have hki : (k : Int) < 12 := by omega
        by_cases hen : 0 ≤ x.s.en
        · have hcode : x.s.code = 0 := by omega
          rw [hcode] at c6
          clear hcode hC
          go_wp2_with fail
          go_meet
          exact ⟨rfl, rfl⟩
        · clear hC
          go_wp2_with fail
          go_meet
          exact ⟨rfl, rfl⟩
      case rest =>
      obtain ⟨rfl, rfl⟩ := hcut
      obtain ⟨wo, hwo⟩ : ∃ x, x = wc := ⟨_, rfl⟩
      subst hwo
      have hki : (k : Int) < 12 := by omega
      go_upto_region 16 with fail
      obtain ⟨w5, hw5⟩ : ∃ w5, w5 = wo.setCell ⟨p, k, none⟩ (.bool true) := ⟨_, rfl⟩
      rw [← hw5]
      have I5 : w5.heap[p]? = some (.cells (marks (rr.take (n + 1))).toArray 60 (0, 0)) := by
        rw [hw5, HTK.out, ← marks_set hk12]
        exact heap_setCell_same _ p k _ _ (.bool true) HI.out.ins
      have O5 : Old2 w.heap.size p (p + 1) wo w5 := by rw [hw5]; exact (Old2.refl _ _ _ _).setP hwp _ _
      have P5 : w5.heap[p + 1]? = _ := (by rw [hw5]; exact Below.heap_setCell _ _ _ _ (by show p + 1 ≠ p; omega) : w5.heap[p + 1]? = wo.heap[p + 1]?).trans HI.out.row
      have z5 : w5.heap.size = wo.heap.size := by rw [hw5]; simp
      have bw5 : Below w.heap.size w w5 := bwo.trans O5.below
      have HI5 := hid I5
      have HO5 := hid O5
      have HP5 := hid P5
      have HZ5 := hid z5
      clear hw5 I5 O5 P5 z5 cin fin c0 c1 c2 c3 c4 c5' c6 c7 c8 c9 c10 c11 c12 c13 d0
      have hsz5' := bw5.size
      go_wp2_with fail
      go_loopw [13] (fun v13 wi => ∃ j : Nat, j ≤ n ∧ v13 = .int .i64 j ∧ Below w5.heap.size w5 wi) (fun v13 _ => n - (intOf v13).toNat)
      case atStart => exact ⟨0, Nat.zero_le _, rfl, Below.refl _ _⟩
      case round =>
        obtain ⟨j, hj, rfl, hbj⟩ := hrel
        obtain ⟨wi, hwi⟩ : ∃ x, x = wr := ⟨_, rfl⟩
        subst hwi
        have bwi : Below w.heap.size w wi := bw5.trans (hbj.mono hsz5')
        have hszi := bwi.size
        have hbi : b < wi.heap.size := by omega
        have Oi := hid (HI.out.old.trans (HO5.out.more hbj hsz5'))
        by_cases hjn : j < n
        · have hjr : j < rr.length := by omega
          have hm := HRX.out.lt j hjr
          have hbb := HBEF.out j hjn hjr hm
          obtain ⟨rb', ro', hA', hBb', d1⟩ := ((HRA.out.old Oi.out).arr).numE1 hjr
          cases hA'
          have hkst : k < (stories xs).length := by simp [stories]; exact hk
          have hmst : rr[j] < (stories xs).length := by simp [stories]; exact hm
          obtain ⟨b1, off1, hA1, -, hcells1⟩ := (HX.out.arr.below bwi).story hkst
          cases hA1
          rw [stories_get xs k hkst hk, HXE.out hk] at hcells1
          obtain ⟨b2, off2, hA1, -, hcells2⟩ := (HX.out.arr.below bwi).story hmst
          cases hA1
          obtain ⟨y, hy⟩ : ∃ y, y = xs[rr[j]] := ⟨_, rfl⟩
          rw [stories_get xs _ hmst hm, ← hy] at hcells2
          rw [← hy] at hbb
          clear hy hmst
          generalize rr[j] = m at *
          obtain ⟨c0, c1, c2, c3, c4, c5', c6, c7, c8, c9, c10, c11, c12, c13⟩ := hcells1
          obtain ⟨e0, e1, e2, e3, e4, e5', e6, e7, e8, e9, e10, e11, e12, e13⟩ := hcells2
          have hrb : rb < wi.heap.size := Nat.lt_of_lt_of_le hBb (by rw [← HZ5.out]; exact hbj.size)
          have hkl : (k : Int) < (xs.length : Int) := by omega
          have hml : (m : Int) < (xs.length : Int) := by omega
          have hjl : (j : Int) < (rr.length : Int) := by omega
          have HBB := hid hbb
          clear hbb
          go_wp2_with fail
          go_still_tail 11, (by kernel_rfl)
          go_wp2_with fail
          refine (before_any x.s y.s _).mono ?_
          rintro e wB ⟨rfl, hbB⟩
          rw [HBB.out]
          go_wp2_with fail
          exact ⟨⟨j + 1, by omega, by go_num, hbj.trans (Below.trans (show Below w5.heap.size wi wi.drew from (by repeat (first | exact Below.refl _ _ | assumption | refine Below.drew ?_ | refine below_drewN ?_ _ | refine Below.alloc ?_ (by first | omega | (simp; done) | (simp; omega)) _ | refine Below.setCell ?_ (by first | omega | (simp; done) | (simp; omega)) _))) (hbB.mono hbj.size))⟩, by simp [intOf]; omega⟩
        · obtain rfl : j = n := by omega
          obtain ⟨wk, hwk⟩ : ∃ x, x = wi := ⟨_, rfl⟩
          subst hwk
          have hkst : k < (stories xs).length := by simp [stories]; exact hk
          obtain ⟨b1, off1, hA1, -, hcells1⟩ := (HX.out.arr.below bwi).story hkst
          cases hA1
          rw [stories_get xs k hkst hk, HXE.out hk] at hcells1
          obtain ⟨k0, k1, k2, k3, k4, k5, k6, k7, k8, k9, k10, k11, k12, k13⟩ := hcells1
          have Pk := (hbj.block (p + 1) (lt_of_heap HP5.out)).trans HP5.out
          have Ik := (hbj.block p (lt_of_heap HI5.out)).trans HI5.out
          have HIK := hid Ik
          have HPK := hid Pk
          obtain ⟨T, hT⟩ : ∃ T, T = runR xs s (rr.take j) := ⟨_, rfl⟩
          have hsh := (HI.out.sh.old (HO5.out.more hbj hsz5')).in_
          rw [← hT] at Pk hsh
          have HSH := hid hsh
          have HTT := hid hT
          have hj12 : j ≤ 12 := by have := HRX.out.len; have := HGOOD.out.2.1; omega
          have HTS := hid (show T.pairs.length ≤ 90000 ∧ T.queue.length ≤ 90000 by rw [hT]; exact HI.out.small.pairs_le (by omega))
          have HKC := hid ((HRAW.out.1.call.below bwi).more hszi)
          have z0 := cell_of_row wk _ 0 _ _ _ Pk
          have z1 := cell_of_row wk _ 1 _ _ _ Pk
          have hlq := lt_of_heap Pk
          have hkl : (k : Int) < (xs.length : Int) := by omega
          clear hT hsh Pk Ik
          go_upto_region 21 with fail
          go_cut [14, 15] (fun v14 v15 wx => Applied wk wx (apS x.s.c x.g T) (apA x.s.c x.g T) v14 v15)
          case first =>
            go_region_held3 (fun w' => w'.cell? ⟨p + 1, 0, none⟩ = some (.slice PT T.pairs.length tc) ∧ w'.cell? ⟨p + 1, 1, none⟩ = some (.slice QT T.queue.length uc) ∧ w'.cell? ⟨b, off + k * 14 + 1, none⟩ = some (.int .i64 x.s.c.kind) ∧ w'.cell? ⟨b, off + k * 14 + 2, none⟩ = some (.string x.s.c.key) ∧ w'.cell? ⟨b, off + k * 14 + 3, none⟩ = some (.string x.s.c.val) ∧ w'.cell? ⟨b, off + k * 14 + 4, none⟩ = some (.string x.s.c.to) ∧ w'.cell? ⟨b, off + k * 14 + 5, none⟩ = some (.slice x.s.c.gA x.s.c.gn x.s.c.gc)) (first | exact keep7 (W := wk) (by repeat (first | with_reducible exact Below.refl _ _ | with_reducible assumption | with_reducible refine Below.drew ?_ | with_reducible refine below_drewN ?_ _ | with_reducible refine Below.alloc ?_ (by first | omega | (simp; done) | (simp; omega)) _ | with_reducible refine Below.setCell ?_ (by first | omega | (simp; done) | (simp; omega)) _)) hlq hbi ⟨z0, z1, k1, k2, k3, k4, k5⟩ | go_keep) (first | (go_at_call 14; refine (apply_anyL T PT tc QT uc x.s.c x.g _ ?_ HTS.out.1 HTS.out.2 ?_).mono ?_; (refine (HSH.out.below ?_).more ?_; exact (by repeat (first | with_reducible exact Below.refl _ _ | with_reducible assumption | with_reducible refine Below.drew ?_ | with_reducible refine below_drewN ?_ _ | with_reducible refine Below.alloc ?_ (by first | omega | (simp; done) | (simp; omega)) _ | with_reducible refine Below.setCell ?_ (by first | omega | (simp; done) | (simp; omega)) _)); exact (by first | omega | (simp; done) | (simp; omega))); (refine (HKC.out.below ?_).more ?_; exact (by repeat (first | with_reducible exact Below.refl _ _ | with_reducible assumption | with_reducible refine Below.drew ?_ | with_reducible refine below_drewN ?_ _ | with_reducible refine Below.alloc ?_ (by first | omega | (simp; done) | (simp; omega)) _ | with_reducible refine Below.setCell ?_ (by first | omega | (simp; done) | (simp; omega)) _)); exact (by first | omega | (simp; done) | (simp; omega))); rintro e wC ⟨loC, PX, px, QX, qx, RX, rx, HX', hx, hlo, rfl, hownX, hownR, hownH, hbC⟩; (try simp only [World.size_alloc, World.size_drew] at hlo); have HLO := hid hlo; clear hlo; have sC := hbC.size; obtain ⟨hcC, hfC⟩ := bcell hbC; (try simp only [World.size_alloc, World.size_drew] at sC); have sC2 : wk.heap.size ≤ wC.heap.size := (by omega); have stC : Below wk.heap.size wk wC := (by refine Below.trans ?_ (hbC.mono ?_); exact (by repeat (first | with_reducible exact Below.refl _ _ | with_reducible assumption | with_reducible refine Below.drew ?_ | with_reducible refine below_drewN ?_ _ | with_reducible refine Below.alloc ?_ (by first | omega | (simp; done) | (simp; omega)) _ | with_reducible refine Below.setCell ?_ (by first | omega | (simp; done) | (simp; omega)) _)); (first | exact Nat.le_refl _ | (simp; done) | (simp; omega))); (try have s1 : wk.heap.size < wC.heap.size := by omega); (try have s2 : wk.heap.size + 1 < wC.heap.size := by omega)))
            all_goals
              go_wp2_with fail
              go_meet
              have hlo := HLO.out
              refine ⟨_, _, PX, px, QX, qx, RX, rx, HX', hx, rfl, rfl, (by repeat (first | with_reducible exact Below.refl _ _ | with_reducible assumption | with_reducible refine Below.drew ?_ | with_reducible refine below_drewN ?_ _ | with_reducible refine Below.alloc ?_ (by first | omega | (simp; done) | (simp; omega)) _ | with_reducible refine Below.setCell ?_ (by first | omega | (simp; done) | (simp; omega)) _)), by omega, by omega, ⟨?_, ?_, ?_⟩, ⟨?_, ?_, ?_, ?_, ?_, ?_, ?_⟩, ⟨Own.lower (lo := loC) ?_ (by omega), Own.lower (lo := loC) ?_ (by omega), hownX.apart⟩, Own.lower (lo := loC) ?_ (by omega), Own.lower (lo := loC) ?_ (by omega)⟩
              all_goals repeat (first | with_reducible exact hownX.pairs | with_reducible exact hownX.queue | with_reducible exact hownR | with_reducible exact hownH | with_reducible refine Own.drew ?_ | with_reducible refine Own.alloc ?_ _ | with_reducible refine Own.setCell ?_ (by first | (show wk.heap.size < loC; omega) | (show wk.heap.size + 1 < loC; omega)) _)
              all_goals first | omega | (simp; done) | (simp; omega) | (have z5 := fun o => hcC wk.heap.size o (by simp only [World.size_drew, World.size_alloc]; omega); have z6 := fun o => hcC (wk.heap.size + 1) o (by simp only [World.size_drew, World.size_alloc]; omega); simp [go_sem, z5, z6]; done) | (have z5 := fun o => hcC wk.heap.size o (by simp only [World.size_drew, World.size_alloc]; omega); simp [go_sem, z5, s1]; done)
          case rest =>
            obtain ⟨p5, p6, PX, px, QX, qx, RX, rx, HX', hx, rfl, rfl, st3, hp5, hp6, ⟨ly5, y50, y51⟩, ⟨ly6, y60, y61, y62, y63, y64, y65⟩, hownX, hownR, hownH⟩ := hcut
            obtain ⟨wv, hwv⟩ : ∃ x, x = wc := ⟨_, rfl⟩
            subst hwv
            have bwv : Below w.heap.size w wv := bwi.trans (st3.mono hszi)
            obtain ⟨b1, off1, hA1, -, hcells2⟩ := (HX.out.arr.below bwv).story hkst
            cases hA1
            rw [stories_get xs k hkst hk, HXE.out hk] at hcells2
            obtain ⟨r0, r1, r2, r3, r4, r5, r6, r7, r8, r9, r10, r11, r12, r13⟩ := hcells2
            have hbv : b < wv.heap.size := Nat.lt_of_lt_of_le hbi st3.size
            have hqv : p + 1 < wv.heap.size := Nat.lt_of_lt_of_le hlq st3.size
            have Pv := (st3.block (p + 1) hlq).trans HPK.out
            have f0 := frozen_of_row wv _ 0 _ _ Pv
            have f1 := frozen_of_row wv _ 1 _ _ Pv
            have z0' := cell_of_row wv _ 0 _ _ _ Pv
            have z1' := cell_of_row wv _ 1 _ _ _ Pv
            have HOX := hid hownX
            clear k0 k1 k2 k3 k4 k5 k6 k7 k8 k9 k10 k11 k12 k13 z0 z1 hownX hownR Pv
            go_upto_region 22 with fail
            go_cut [161] (fun v161 wx => v161 = .bool false ∧ ∃ m, wx = wv.drewN m)
            case first =>
              by_cases hen : 0 ≤ x.s.en
              · have hok := HOK.out
                rw [← HTT.out] at hok
                obtain ⟨h1, h2, h3⟩ := ok_ans hok hen
                obtain ⟨ps, hans⟩ := HRAW.out.1.ans
                rw [h1] at y61
                rw [h2] at y62
                rw [h3] at y64 hownH
                rw [hans.hlen] at r10
                have hl20 : x.hs.length ≤ 1000000 := by have := HRAW.out.2.hits; rw [hans.hlen] at this; omega
                have SB := fun a => sameBools_eq x.hs HX' hx x.s.hA x.s.hc wv (hownH.arr bit_len) ((hans.harr.below bwv).more bwv.size) hl20 a
                clear hok h1 h2 h3 hans hownH
                go_quiet ((go_at_call 22; exact SB _))
                go_wp2_with fail
                go_meet
                exact ⟨rfl, _, rfl⟩
              · clear hownH
                go_quiet (fail)
                go_wp2_with fail
                go_meet
                exact ⟨rfl, _, rfl⟩
            case rest =>
              obtain ⟨rfl, m, rfl⟩ := hcut
              have HN := hid (RInv.next HI.out hwp HNEXT.out HO5.out hbj st3 hsz5' hlq HIK.out HPK.out rfl (show apS x.s.c x.g T = x.next (runR xs s (rr.take j)) by rw [← HTT.out]; rfl) HOX.out m)
              clear hownH
              go_wp2_with fail
              exact ⟨⟨j + 1, PX, px, QX, qx, by omega, by go_num, HN.out⟩, by simp [intOf]; omega⟩
    · obtain rfl : n = rr.length := by omega
      have hlm : (stories xs).length = xs.length := by simp [stories]
      have PTS : ∀ W, Below w.heap.size w W → Calls Tryd.prog 23 #[.slice A xs.length c] W (GivesN (countK (stories xs)) W) := fun W hW => by
        have := points_any (stories xs) A c W ((HSTS.out.up hW).arr) (fun s hs => by
          obtain ⟨x, hx, rfl⟩ := List.mem_map.1 hs
          exact (HSTS.out.up hW).st x hx) (by rw [hlm]; exact hcc) hcm (by rw [hlm]; omega)
        rw [hlm] at this
        exact this
      have hlen : rr.length ≤ countK (stories xs) := Nat.le_trans HRX.out.len (picks_countK xs)
      have hins := HI.out.ins
      rw [List.take_length] at hins
      have HIN := hid hins
      have HLM := hid hlm
      have hr60 : rr.length ≤ 12 := Nat.le_trans HRX.out.len HGOOD.out.2.1
      generalize countK (stories xs) = ck at *
      clear hins hlm hn hlt HI
      go_wp2_with fail
      refine (PTS _ bwo).mono ?_
      rintro e wl ⟨A7, c7, rfl, hbl⟩
      have bwl : Below w.heap.size w wl := bwo.trans (hbl.mono hsz)
      have hinl := (hbl.block p (lt_of_heap HIN.out)).trans HIN.out
      have HINL := hid hinl
      have hszl := bwl.size
      clear PTS hinl
      go_wp2_with fail
      go_loopw [17] (fun v17 wr => ∃ i : Nat, i ≤ xs.length ∧ v17 = .int .i64 i ∧ Below wl.heap.size wl wr) (fun v17 _ => xs.length - (intOf v17).toNat)
      case atStart => exact ⟨0, Nat.zero_le _, rfl, Below.refl _ _⟩
      case round =>
        obtain ⟨i, hi, rfl, hb⟩ := hrel
        have bwr : Below w.heap.size w wr := bwl.trans (hb.mono hszl)
        have hszr := bwr.size
        by_cases hit : i < xs.length
        · have hist : i < (stories xs).length := by rw [HLM.out]; exact hit
          obtain ⟨b, off, hA2, hB2, hcells⟩ := (HX.out.arr.below bwr).story hist
          rw [stories_get xs i hist hit] at hcells
          have HAA := hid hA2
          subst hA2
          obtain ⟨x, hxx⟩ : ∃ x, x = xs[i] := ⟨_, rfl⟩
          have hxall := HRX.out.all i hit
          have HST := hid (HSTS.out.st xs[i] (List.getElem_mem hit))
          rw [← hxx] at hcells hxall HST
          have HALL := hid hxall
          clear hxx hxall hist
          have PT1 := points_any [x.s] (some ⟨b, off + i * 14, none⟩) (c - i) wr (Arr.one14 (Nat.lt_of_lt_of_le hB2 hszr) hcells) (fun s' hs' => by rw [List.mem_singleton] at hs'; rw [hs']; exact (HST.out.below bwr).more hszr) (by simp; omega) (by omega) (by simp)
          rw [countK_one] at PT1
          have hst13 := hcells.c13
          have hst6 := hcells.c6
          have hci : ¬ c = i := by omega
          have i1 : IntKind.i64.wrap ((i : Int) + 1) = (i : Int) + 1 := Go.IntWalk.i64_in _ (by omega)
          clear hcells
          have hp6 : p < wr.heap.size := Nat.lt_of_lt_of_le (lt_of_heap HINL.out) hb.size
          have hbi : b < wr.heap.size := Nat.lt_of_lt_of_le hB2 hszr
          have hii : (i : Int) < 12 := by omega
          have cells6 : ∀ w6, Below wr.heap.size wr w6 → w6.cell? ⟨b, off + i * 14 + 13, none⟩ = some (.int .i64 x.s.en) ∧ w6.cell? ⟨b, off + i * 14 + 6, none⟩ = some (.int .i64 x.s.code) ∧ w6.cell? ⟨p, i, none⟩ = some (.bool (decide (i ∈ rr))) := fun w6 h6 => by
            refine ⟨(h6.cell (p := ⟨b, _, none⟩) hbi).trans hst13, (h6.cell (p := ⟨b, _, none⟩) hbi).trans hst6, ?_⟩
            rw [h6.cell (p := ⟨p, i, none⟩) hp6, hb.cell (p := ⟨p, i, none⟩) (lt_of_heap HINL.out), cell_of_row wl p i _ _ _ HINL.out, ← Array.getElem?_toList]
            exact marks_get (by omega)
          by_cases hkd : kindB x.s.c.kind = true
          · rw [if_pos hkd] at PT1
            have HKD := hid hkd
            clear hkd
            go_wp2_with fail
            refine PT1.mono ?_
            rintro e w6 ⟨A6, c6', rfl, hb6⟩
            obtain ⟨d13, d6, din⟩ := cells6 w6 hb6
            have hb6' : b < w6.heap.size := Nat.lt_of_lt_of_le hbi hb6.size
            have hp6' : p < w6.heap.size := Nat.lt_of_lt_of_le hp6 hb6.size
            clear cells6 PT1 hst13 hst6
            by_cases hen : 0 ≤ x.s.en
            · by_cases hcd : x.s.code = 0
              · have hmem : decide (i ∈ rr) = true := by
                  rw [decide_eq_true_iff]
                  refine HALL.out ?_ hen
                  unfold countsB
                  rw [HKD.out, hcd]
                  simp
                rw [hmem] at din
                rw [hcd] at d6
                clear hmem hcd
                go_wp2_with fail
                exact ⟨⟨i + 1, by omega, by go_num, hb.trans (hb6.mono hb.size)⟩, by simp [intOf]; omega⟩
              · have hcd' : (x.s.code == 0) = false := by simpa using hcd
                clear hcd
                go_wp2_with fail
                exact ⟨⟨i + 1, by omega, by go_num, hb.trans (hb6.mono hb.size)⟩, by simp [intOf]; omega⟩
            · go_wp2_with fail
              exact ⟨⟨i + 1, by omega, by go_num, hb.trans (hb6.mono hb.size)⟩, by simp [intOf]; omega⟩
          · rw [if_neg hkd] at PT1
            clear hkd
            go_wp2_with fail
            refine PT1.mono ?_
            rintro e w6 ⟨A6, c6', rfl, hb6⟩
            clear cells6 PT1 hst13 hst6
            go_wp2_with fail
            exact ⟨⟨i + 1, by omega, by go_num, hb.trans (hb6.mono hb.size)⟩, by simp [intOf]; omega⟩
        · have hck : (rr.length : Int) ≤ (ck : Int) := by omega
          clear hi
          go_wp2_with fail
          refine (AW _ bwr).mono ?_
          rintro e wz ⟨rfl, hbz⟩
          go_wp2_with fail
          go_ret
          exact ⟨rfl, bwr.trans (hbz.mono hszr)⟩
end Go.Proofs.YtamcehfcjcmpmaaDoor
