/- The statement SerialOne: the walk. -/
import Derived.Test.YtamcehfcjcmpmaaDoorOneM
import Derived.Deep.DeepCutAuto
namespace Go.Proofs.YtamcehfcjcmpmaaDoor
open Go.RowKit

def numZ (n : Int) : List Value := [.int .i64 n]
theorem Arr.numZ1 {w : World} {B : Nat} {A : Option Addr} {l : List Int} (h : Arr numZ 1 w B A l) {i : Nat} (hi : i < l.length) : ∃ b off, A = some ⟨b, off, none⟩ ∧ b < B ∧ w.cell? ⟨b, off + i, none⟩ = some (.int .i64 l[i]) := by
  rcases h with h | ⟨b, off, hA, hB, hc⟩
  · rw [h] at hi; simp at hi
  · exact ⟨b, off, hA, hB, by have := hc i hi 0 _ rfl; simpa using this⟩
theorem row_en {W : World} {q : Nat} {x : Story} (h : W.heap[q]? = some (.cells x.enc.toArray 44 (0, 0))) (v : Int) : (W.setCell ⟨q, 13, none⟩ (.int .i64 v)).heap[q]? = some (.cells ({ x with en := v } : Story).enc.toArray 44 (0, 0)) := heap_setCell_same _ q 13 _ _ (.int .i64 v) h
theorem row_bg {W : World} {q : Nat} {x : Story} (h : W.heap[q]? = some (.cells x.enc.toArray 44 (0, 0))) (v : Int) : (W.setCell ⟨q, 12, none⟩ (.int .i64 v)).heap[q]? = some (.cells ({ x with bg := v } : Story).enc.toArray 44 (0, 0)) := heap_setCell_same _ q 12 _ _ (.int .i64 v) h
set_option maxHeartbeats 4000000 in
set_option maxRecDepth 100000 in
theorem serialOne_any (s : Shelf) (PA : Option Addr) (pc : Nat) (QA : Option Addr) (qc : Nat) (cs : List Call0) (gs : List (List Call0)) (A : Option Addr) (c : Nat) (es : List Int) (E : Option Addr) (ec : Nat) (ls : List Int) (F : Option Addr) (fc : Nat) (w : World)
    (hs : ShIn w w.heap.size PA pc QA qc s) (hc : CallsIn w w.heap.size A c cs gs) (hd : ∀ i (h : i < gs.length), ∀ z ∈ gs[i], ∃ g, CallIn w w.heap.size z g) (he : Arr numZ 1 w w.heap.size E es) (hec : es.length ≤ ec) (hem : ec ≤ 9223372036854775807) (hf : Arr numZ 1 w w.heap.size F ls) (hfc : ls.length ≤ fc) (hfm : fc ≤ 9223372036854775807) (htab : Tab w.heap.size w) :
    Calls Tryd.prog 3 #[.agg #[.slice PA s.pairs.length pc, .slice QA s.queue.length qc], .slice A cs.length c, .slice E es.length ec, .slice F ls.length fc] w fun e w' => e = .returned (.bool true) ∧ Below w.heap.size w w' := by
  have HT := hid htab
  have HS := hid hs
  have HC := hid hc
  have HD := hid hd
  have HE := hid he
  have HF := hid hf
  have hcc := hc.cap
  have hcm := hc.max
  clear htab hs hc hd he hf
  have AW : ∀ W, Below w.heap.size w W → Calls Tryd.prog 11 #[] W fun e w' => e = .returned (.bool true) ∧ Below W.heap.size W w' := fun W hW => awake25 W (HT.out.up hW)
  by_cases g1 : (12 : Int) < (cs.length : Int)
  · go_enter Tryd.func3, Tryd.ntmps3
    go_wp2_with fail
    refine (AW _ (by repeat (first | exact Below.refl _ _ | assumption | refine Below.drew ?_ | refine below_drewN ?_ _ | refine Below.alloc ?_ (by first | omega | (simp; done) | (simp; omega)) _ | refine Below.setCell ?_ (by first | omega | (simp; done) | (simp; omega)) _))).mono ?_
    rintro e w1 ⟨rfl, hb1⟩
    go_wp2_with fail
    go_ret
    exact ⟨rfl, Below.trans (by repeat (first | exact Below.refl _ _ | assumption | refine Below.drew ?_ | refine below_drewN ?_ _ | refine Below.alloc ?_ (by first | omega | (simp; done) | (simp; omega)) _ | refine Below.setCell ?_ (by first | omega | (simp; done) | (simp; omega)) _)) (hb1.mono (by first | omega | (simp; done) | (simp; omega)))⟩
  have hl12 : cs.length ≤ 12 := by omega
  go_enter Tryd.func3, Tryd.ntmps3
  go_wp2_with fail
  refine (may_any s PA pc QA s.queue.length qc _ ((HS.out.pairs.below (by repeat (first | exact Below.refl _ _ | assumption | refine Below.drew ?_ | refine below_drewN ?_ _ | refine Below.alloc ?_ (by first | omega | (simp; done) | (simp; omega)) _ | refine Below.setCell ?_ (by first | omega | (simp; done) | (simp; omega)) _))).more (by first | omega | (simp; done) | (simp; omega))) HS.out.plen HS.out.pmax).mono ?_
  rintro e w1 ⟨rfl, hb1⟩
  have bw1 : Below w.heap.size w w1 := Below.trans (by repeat (first | exact Below.refl _ _ | assumption | refine Below.drew ?_ | refine below_drewN ?_ _ | refine Below.alloc ?_ (by first | omega | (simp; done) | (simp; omega)) _ | refine Below.setCell ?_ (by first | omega | (simp; done) | (simp; omega)) _)) (hb1.mono (by first | omega | (simp; done) | (simp; omega)))
  have R1 : w1.heap[w.heap.size]? = some (.cells #[.slice PA s.pairs.length pc, .slice QA s.queue.length qc] 25 (0, 0)) := (hb1.block _ (by simp)).trans ((heap_alloc_if _ _ _).trans (if_pos rfl))
  cases hm : mayB s.pairs with
  | false =>
    clear hm
    go_wp2_with fail
    refine (AW _ bw1).mono ?_
    rintro e w2 ⟨rfl, hb2⟩
    go_wp2_with fail
    go_ret
    exact ⟨rfl, bw1.trans (hb2.mono bw1.size)⟩
  | true =>
  have HM := hid hm
  have q0 := cell_of_row w1 _ 0 _ _ _ R1
  have q1 := cell_of_row w1 _ 1 _ _ _ R1
  have ql := lt_of_heap R1
  clear hm
  go_wp2_with fail
  refine (large25_any s PA pc QA qc [] none 0 _ ((HS.out.below bw1).more bw1.size) ⟨Arr.nil, by simp, Nat.le_refl _, by omega⟩).mono ?_
  rintro e w2 ⟨r2, rfl, hb2, hl2⟩
  have bw2 : Below w.heap.size w w2 := bw1.trans (hb2.mono bw1.size)
  have R2 := (hb2.block _ ql).trans R1
  cases r2 with
  | true =>
    clear hl2
    go_wp2_with fail
    refine (AW _ bw2).mono ?_
    rintro e w3 ⟨rfl, hb3⟩
    go_wp2_with fail
    go_ret
    exact ⟨rfl, bw2.trans (hb3.mono bw2.size)⟩
  | false =>
  have HNL := hid (hl2 rfl)
  clear q0 q1 ql R1 hl2 hb2 hb1 bw1
  have q0 := cell_of_row w2 _ 0 _ _ _ R2
  have q1 := cell_of_row w2 _ 1 _ _ _ R2
  have ql := lt_of_heap R2
  go_upto_region 5 with fail
  generalize hw3 : World.alloc w2 _ = w3
  have R3 : w3.heap[w.heap.size]? = some (.cells #[.slice PA s.pairs.length pc, .slice QA s.queue.length qc] 25 (0, 0)) := by rw [← hw3]; exact (Below.heap_alloc _ _ _ ql).trans R2
  have P3 : w3.heap[w2.heap.size]? = some (.cells #[.slice PA s.pairs.length pc, .slice QA s.queue.length qc] 25 (0, 0)) := by rw [← hw3]; exact (heap_alloc_if _ _ _).trans (if_pos rfl)
  have bw3 : Below w.heap.size w w3 := by rw [← hw3]; exact bw2.alloc bw2.size _
  have HO3 : Hid (OneR w.heap.size w2.heap.size s w3 [] none 0 PA pc QA qc) := hid ⟨Own.none_, P3, ShO.of_in (HS.out.below bw3), OneL.nil s, by simp⟩
  have HR3 := hid R3
  clear hw3 R2 R3 P3 bw2 q0 q1
  generalize w2.heap.size = p at *
  go_wp2_with fail
  go_loopw [9, 11] (fun v9 v11 wr => ∃ (ys : List Item) (A' : Option Addr) (c' : Nat) (PT : Option Addr) (pt : Nat) (QT : Option Addr) (qt : Nat), ys.length ≤ cs.length ∧ v11 = .int .i64 ys.length ∧ v9 = .slice A' (stories ys).length c' ∧ OneR w.heap.size p s wr ys A' c' PT pt QT qt ∧ Below w.heap.size w wr ∧ wr.heap[w.heap.size]? = some (.cells #[.slice PA s.pairs.length pc, .slice QA s.queue.length qc] 25 (0, 0))) (fun _ v11 _ => cs.length - (intOf v11).toNat)
  case atStart => exact ⟨[], none, 0, PA, pc, QA, qc, Nat.zero_le _, rfl, rfl, HO3.out, bw3, HR3.out⟩
  case round =>
    obtain ⟨ys, A', c', PT, pt, QT, qt, hyl, rfl, rfl, hO, hb, hR⟩ := hrel
    have HO := hid hO
    have HR := hid hR
    have hsz := hb.size
    clear hO hR bw3 HO3 HR3
    obtain ⟨i, hi⟩ : ∃ i, ys.length = i := ⟨_, rfl⟩
    rw [hi] at hyl ⊢
    have HI := hid hi
    clear hi
    by_cases hlt : i < cs.length
    · have hg : i < gs.length := by rw [HC.out.len]; exact hlt
      have HCI := hid (HC.out.each i hlt hg)
      have HDI := hid (HD.out i hg)
      obtain ⟨G, hG⟩ : ∃ G, G = gs[i] := ⟨_, rfl⟩
      rw [← hG] at HCI HDI
      clear hG
      obtain ⟨b, off, hA, hB, k0, k1, k2, k3, k4⟩ := (HC.out.arr.below hb).call0 hlt
      have HAA := hid hA
      subst hA
      have hbr : b < wr.heap.size := Nat.lt_of_lt_of_le hB hsz
      go_wp2_with fail
      refine (weight_any cs[i] G _ ((HCI.out.below hb).more hb.size)).mono ?_
      rintro e w4 ⟨r, rfl, hb4, hwt⟩
      have HWT := hid hwt
      have st4 : Below wr.heap.size wr w4 := hb4
      have bw4 : Below w.heap.size w w4 := hb.trans (hb4.mono hsz)
      have hbr4 : b < w4.heap.size := Nat.lt_of_lt_of_le hbr st4.size
      obtain ⟨e0, e1, e2, e3, e4⟩ : w4.cell? ⟨b, off + i * 5, none⟩ = some (.int .i64 cs[i].kind) ∧ w4.cell? ⟨b, off + i * 5 + 1, none⟩ = some (.string cs[i].key) ∧ w4.cell? ⟨b, off + i * 5 + 2, none⟩ = some (.string cs[i].val) ∧ w4.cell? ⟨b, off + i * 5 + 3, none⟩ = some (.string cs[i].to) ∧ w4.cell? ⟨b, off + i * 5 + 4, none⟩ = some (.slice cs[i].gA cs[i].gn cs[i].gc) :=
        ⟨(st4.cell (p := ⟨b, _, none⟩) hbr).trans k0, (st4.cell (p := ⟨b, _, none⟩) hbr).trans k1, (st4.cell (p := ⟨b, _, none⟩) hbr).trans k2, (st4.cell (p := ⟨b, _, none⟩) hbr).trans k3, (st4.cell (p := ⟨b, _, none⟩) hbr).trans k4⟩
      clear k0 k1 k2 k3 k4 hwt hb4
      by_cases hr : r ≤ 600
      case neg =>
        have hr' : 600 < r := by omega
        clear hr
        go_wp2_with fail
        refine (AW _ bw4).mono ?_
        rintro e w5 ⟨rfl, hb5⟩
        go_wp2_with fail
        go_ret
        exact ⟨rfl, bw4.trans (hb5.mono bw4.size)⟩
      have HFL := hid (HWT.out hr)
      have hr0 : ¬ 600 < r := by omega
      clear HWT hr
      go_wp2_with fail
      refine (good_any cs[i] G _ ((HCI.out.below bw4).more bw4.size)).mono ?_
      rintro e w2 ⟨rfl, hb2⟩
      have st2 : Below wr.heap.size wr w2 := st4.trans (hb2.mono st4.size)
      have bw2 : Below w.heap.size w w2 := hb.trans (st2.mono hsz)
      have hb2' : b < w2.heap.size := Nat.lt_of_lt_of_le hbr st2.size
      obtain ⟨k0, k1, k2, k3, k4⟩ : w2.cell? ⟨b, off + i * 5, none⟩ = some (.int .i64 cs[i].kind) ∧ w2.cell? ⟨b, off + i * 5 + 1, none⟩ = some (.string cs[i].key) ∧ w2.cell? ⟨b, off + i * 5 + 2, none⟩ = some (.string cs[i].val) ∧ w2.cell? ⟨b, off + i * 5 + 3, none⟩ = some (.string cs[i].to) ∧ w2.cell? ⟨b, off + i * 5 + 4, none⟩ = some (.slice cs[i].gA cs[i].gn cs[i].gc) :=
        ⟨(hb2.cell (p := ⟨b, _, none⟩) hbr4).trans e0, (hb2.cell (p := ⟨b, _, none⟩) hbr4).trans e1, (hb2.cell (p := ⟨b, _, none⟩) hbr4).trans e2, (hb2.cell (p := ⟨b, _, none⟩) hbr4).trans e3, (hb2.cell (p := ⟨b, _, none⟩) hbr4).trans e4⟩
      clear e0 e1 e2 e3 e4 hb2 st4 bw4 hbr4
      by_cases hg0 : goodI cs[i] G = 0
      case neg =>
        generalize goodI cs[i] G = z at hg0 ⊢
        go_wp2_with fail
        refine (AW _ bw2).mono ?_
        rintro e w5 ⟨rfl, hb5⟩
        go_wp2_with fail
        go_ret
        exact ⟨rfl, bw2.trans (hb5.mono bw2.size)⟩
      have HG0 := hid hg0
      rw [hg0]
      clear hg0
      by_cases h6 : cs[i].kind = 6
      · have b6 : (cs[i].kind == 6) = true := by simpa using h6
        clear h6
        go_wp2_with fail
        refine (AW _ bw2).mono ?_
        rintro e w5 ⟨rfl, hb5⟩
        go_wp2_with fail
        go_ret
        exact ⟨rfl, bw2.trans (hb5.mono bw2.size)⟩
      have b6 : (cs[i].kind == 6) = false := by simpa using h6
      by_cases h8 : cs[i].kind = 8
      · have b8 : (cs[i].kind == 8) = true := by simpa using h8
        have H6 := hid h6
        clear h6 h8
        go_wp2_with fail
        refine (AW _ bw2).mono ?_
        rintro e w5 ⟨rfl, hb5⟩
        go_wp2_with fail
        go_ret
        exact ⟨rfl, bw2.trans (hb5.mono bw2.size)⟩
      have b8 : (cs[i].kind == 8) = false := by simpa using h8
      have H6 := hid h6
      have H8 := hid h8
      clear h6 h8
      have hold : Old w.heap.size p wr w2 := Old.of_below st2 hsz
      have P2 := (st2.block p (lt_of_heap HO.out.row)).trans HO.out.row
      have HSH := hid ((HO.out.sh.fr hold.fr).in_ bw2.size)
      have HOLD := hid hold
      have HKC := hid ((HCI.out.below bw2).more bw2.size)
      clear hold
      obtain ⟨T, hT⟩ : ∃ T, T = runTo ys s ys.length := ⟨_, rfl⟩
      rw [← hT] at P2 HSH
      have HTT := hid hT
      clear hT
      have hTs : T.pairs.length ≤ 90000 ∧ T.queue.length ≤ 90000 := by rw [HTT.out]; exact (Small.run HNL.out.small (Nat.le_refl _)).pairs_le (by rw [HI.out]; omega)
      have HTS := hid hTs
      clear hTs
      have c0 := cell_of_row w2 _ 0 _ _ _ P2
      have c1 := cell_of_row w2 _ 1 _ _ _ P2
      have hwp := lt_of_heap P2
      have HP2 := hid P2
      clear P2
      go_upto_region 11 with fail
      clear b6 b8 hr0
      go_cut [13, 14] (fun v13 v14 wx => Applied w2 wx (apS cs[i] G T) (apA cs[i] G T) v13 v14)
      case first =>
        go_region_held3 (fun w' => w'.cell? ⟨p, 0, none⟩ = some (.slice PT T.pairs.length pt) ∧ w'.cell? ⟨p, 1, none⟩ = some (.slice QT T.queue.length qt) ∧ w'.cell? ⟨b, off + i * 5, none⟩ = some (.int .i64 cs[i].kind) ∧ w'.cell? ⟨b, off + i * 5 + 1, none⟩ = some (.string cs[i].key) ∧ w'.cell? ⟨b, off + i * 5 + 2, none⟩ = some (.string cs[i].val) ∧ w'.cell? ⟨b, off + i * 5 + 3, none⟩ = some (.string cs[i].to) ∧ w'.cell? ⟨b, off + i * 5 + 4, none⟩ = some (.slice cs[i].gA cs[i].gn cs[i].gc)) (first | exact keep7 (W := w2) (by repeat (first | with_reducible exact Below.refl _ _ | with_reducible assumption | with_reducible refine Below.drew ?_ | with_reducible refine below_drewN ?_ _ | with_reducible refine Below.alloc ?_ (by first | omega | (simp; done) | (simp; omega)) _ | with_reducible refine Below.setCell ?_ (by first | omega | (simp; done) | (simp; omega)) _)) hwp hb2' ⟨c0, c1, k0, k1, k2, k3, k4⟩ | go_keep) (first | (go_at_call 14; refine (apply_anyL T PT pt QT qt cs[i] G _ ?_ HTS.out.1 HTS.out.2 ?_).mono ?_; (refine (HSH.out.below ?_).more ?_; exact (by repeat (first | with_reducible exact Below.refl _ _ | with_reducible assumption | with_reducible refine Below.drew ?_ | with_reducible refine below_drewN ?_ _ | with_reducible refine Below.alloc ?_ (by first | omega | (simp; done) | (simp; omega)) _ | with_reducible refine Below.setCell ?_ (by first | omega | (simp; done) | (simp; omega)) _)); exact (by first | omega | (simp; done) | (simp; omega))); (refine (HKC.out.below ?_).more ?_; exact (by repeat (first | with_reducible exact Below.refl _ _ | with_reducible assumption | with_reducible refine Below.drew ?_ | with_reducible refine below_drewN ?_ _ | with_reducible refine Below.alloc ?_ (by first | omega | (simp; done) | (simp; omega)) _ | with_reducible refine Below.setCell ?_ (by first | omega | (simp; done) | (simp; omega)) _)); exact (by first | omega | (simp; done) | (simp; omega))); rintro e wC ⟨loC, PX, px, QX, qx, RX, rx, HX, hx, hlo, rfl, hownX, hownR, hownH, hbC⟩; (try simp only [World.size_alloc, World.size_drew] at hlo); have HLO := hid hlo; clear hlo; have sC := hbC.size; obtain ⟨hcC, hfC⟩ := bcell hbC; (try simp only [World.size_alloc, World.size_drew] at sC); have sC2 : w2.heap.size ≤ wC.heap.size := (by omega); have stC : Below w2.heap.size w2 wC := (by refine Below.trans ?_ (hbC.mono ?_); exact (by repeat (first | with_reducible exact Below.refl _ _ | with_reducible assumption | with_reducible refine Below.drew ?_ | with_reducible refine below_drewN ?_ _ | with_reducible refine Below.alloc ?_ (by first | omega | (simp; done) | (simp; omega)) _ | with_reducible refine Below.setCell ?_ (by first | omega | (simp; done) | (simp; omega)) _)); (first | exact Nat.le_refl _ | (simp; done) | (simp; omega))); (try have s1 : w2.heap.size < wC.heap.size := by omega); (try have s2 : w2.heap.size + 1 < wC.heap.size := by omega)))
        all_goals
          go_wp2_with fail
          go_meet
          have hlo := HLO.out
          refine ⟨_, _, PX, px, QX, qx, RX, rx, HX, hx, rfl, rfl, (by repeat (first | with_reducible exact Below.refl _ _ | with_reducible assumption | with_reducible refine Below.drew ?_ | with_reducible refine below_drewN ?_ _ | with_reducible refine Below.alloc ?_ (by first | omega | (simp; done) | (simp; omega)) _ | with_reducible refine Below.setCell ?_ (by first | omega | (simp; done) | (simp; omega)) _)), by omega, by omega, ⟨?_, ?_, ?_⟩, ⟨?_, ?_, ?_, ?_, ?_, ?_, ?_⟩, ⟨Own.lower (lo := loC) ?_ (by omega), Own.lower (lo := loC) ?_ (by omega), hownX.apart⟩, Own.lower (lo := loC) ?_ (by omega), Own.lower (lo := loC) ?_ (by omega)⟩
          all_goals repeat (first | with_reducible exact hownX.pairs | with_reducible exact hownX.queue | with_reducible exact hownR | with_reducible exact hownH | with_reducible refine Own.drew ?_ | with_reducible refine Own.alloc ?_ _ | with_reducible refine Own.setCell ?_ (by first | (show w2.heap.size < loC; omega) | (show w2.heap.size + 1 < loC; omega)) _)
          all_goals first | omega | (simp; done) | (simp; omega) | (have z5 := fun o => hcC w2.heap.size o (by simp only [World.size_drew, World.size_alloc]; omega); have z6 := fun o => hcC (w2.heap.size + 1) o (by simp only [World.size_drew, World.size_alloc]; omega); simp [go_sem, z5, z6]; done) | (have z5 := fun o => hcC w2.heap.size o (by simp only [World.size_drew, World.size_alloc]; omega); simp [go_sem, z5, s1]; done)
      case rest =>
        obtain ⟨p5, p6, PX, px, QX, qx, RX, rx, HX, hx, rfl, rfl, st3, hp5, hp6, ⟨ly5, y50, y51⟩, ⟨ly6, y60, y61, y62, y63, y64, y65⟩, hownX, hownR, hownH⟩ := hcut
        obtain ⟨wv, hwv⟩ : ∃ wv, wv = wc := ⟨_, rfl⟩
        subst hwv
        have hd1 : p5 ≠ p := by omega
        have hd2 : p6 ≠ p := by omega
        obtain ⟨q0, q1, q2, q3, q4⟩ : wv.cell? ⟨b, off + i * 5, none⟩ = some (.int .i64 cs[i].kind) ∧ wv.cell? ⟨b, off + i * 5 + 1, none⟩ = some (.string cs[i].key) ∧ wv.cell? ⟨b, off + i * 5 + 2, none⟩ = some (.string cs[i].val) ∧ wv.cell? ⟨b, off + i * 5 + 3, none⟩ = some (.string cs[i].to) ∧ wv.cell? ⟨b, off + i * 5 + 4, none⟩ = some (.slice cs[i].gA cs[i].gn cs[i].gc) :=
          ⟨(st3.cell (p := ⟨b, _, none⟩) hb2').trans k0, (st3.cell (p := ⟨b, _, none⟩) hb2').trans k1, (st3.cell (p := ⟨b, _, none⟩) hb2').trans k2, (st3.cell (p := ⟨b, _, none⟩) hb2').trans k3, (st3.cell (p := ⟨b, _, none⟩) hb2').trans k4⟩
        have Pc := (st3.block p hwp).trans HP2.out
        have hbc : b < wv.heap.size := Nat.lt_of_lt_of_le hb2' st3.size
        have hbp : b ≠ p := by have := HO.out.row; omega
        have hwpc := lt_of_heap Pc
        have f0 := frozen_of_row wv _ 0 _ _ Pc
        have f1 := frozen_of_row wv _ 1 _ _ Pc
        have z0 := cell_of_row wv _ 0 _ _ _ Pc
        have z1 := cell_of_row wv _ 1 _ _ _ Pc
        have HPC := hid Pc
        have HOX := hid hownX
        have HOR := hid hownR
        have HOH := hid hownH
        have bwv : Below w.heap.size w wv := bw2.trans (st3.mono bw2.size)
        have HOC := hid (HOLD.out.more st3 bw2.size)
        have szc : w.heap.size ≤ wv.heap.size := bwv.size
        clear hownX hownR hownH c0 c1 k0 k1 k2 k3 k4 Pc
        obtain ⟨a, ha⟩ : ∃ a, a = apA cs[i] G T := ⟨_, rfl⟩
        obtain ⟨T', hT'⟩ : ∃ T', T' = apS cs[i] G T := ⟨_, rfl⟩
        rw [← ha] at y60 y61 y62 y63 y64 HOR HOH
        rw [← hT'] at y50 y51 HOX
        have HA' := hid ha
        have HT' := hid hT'
        clear ha hT'
        go_upto_region 13 with fail
        obtain ⟨w5, hw5⟩ : ∃ w5, w5 = (wv.setCell ⟨p, 0, none⟩ (.slice PX T'.pairs.length px)).setCell ⟨p, 1, none⟩ (.slice QX T'.queue.length qx) := ⟨_, rfl⟩
        rw [← hw5]
        have P5 : w5.heap[p]? = some (.cells #[.slice PX T'.pairs.length px, .slice QX T'.queue.length qx] 25 (0, 0)) := by rw [hw5]; exact heap_setCell_same _ p 1 _ _ (.slice QX T'.queue.length qx) (heap_setCell_same _ p 0 _ _ (.slice PX T'.pairs.length px) HPC.out)
        have hpl : w.heap.size ≤ p := by omega
        have O5 : Old w.heap.size p wv w5 := by rw [hw5]; exact ((Old.of_below (Below.refl _ _) szc).setP hpl _ _).setP hpl _ _
        have hz5 : wv.heap.size ≤ w5.heap.size := by rw [hw5]; simp
        have kc : ∀ j o, j < wv.heap.size → j ≠ p → w5.cell? ⟨j, o, none⟩ = wv.cell? ⟨j, o, none⟩ := fun j o hj hne => World.cell?_of_block (a := ⟨j, o, none⟩) (O5.keep j hj hne)
        obtain ⟨r0, r1, r2, r3, r4⟩ : w5.cell? ⟨b, off + i * 5, none⟩ = some (.int .i64 cs[i].kind) ∧ w5.cell? ⟨b, off + i * 5 + 1, none⟩ = some (.string cs[i].key) ∧ w5.cell? ⟨b, off + i * 5 + 2, none⟩ = some (.string cs[i].val) ∧ w5.cell? ⟨b, off + i * 5 + 3, none⟩ = some (.string cs[i].to) ∧ w5.cell? ⟨b, off + i * 5 + 4, none⟩ = some (.slice cs[i].gA cs[i].gn cs[i].gc) :=
          ⟨(kc _ _ hbc hbp).trans q0, (kc _ _ hbc hbp).trans q1, (kc _ _ hbc hbp).trans q2, (kc _ _ hbc hbp).trans q3, (kc _ _ hbc hbp).trans q4⟩
        obtain ⟨v0, v1, v2, v3, v4, v5⟩ : w5.cell? ⟨p6, 0, none⟩ = some (.int .i64 a.code) ∧ w5.cell? ⟨p6, 1, none⟩ = some (.bool a.found) ∧ w5.cell? ⟨p6, 2, none⟩ = some (.string a.value) ∧ w5.cell? ⟨p6, 3, none⟩ = some (.slice RX a.pairs.length rx) ∧ w5.cell? ⟨p6, 4, none⟩ = some (.slice HX a.hits.length hx) ∧ w5.cell? ⟨p6, 5, none⟩ = some (.int .u64 0) :=
          ⟨(kc _ _ ly6 hd2).trans y60, (kc _ _ ly6 hd2).trans y61, (kc _ _ ly6 hd2).trans y62, (kc _ _ ly6 hd2).trans y63, (kc _ _ ly6 hd2).trans y64, (kc _ _ ly6 hd2).trans y65⟩
        have lb5 : b < w5.heap.size := Nat.lt_of_lt_of_le hbc hz5
        have lp5 : p6 < w5.heap.size := Nat.lt_of_lt_of_le ly6 hz5
        have lw5 : w.heap.size ≤ w5.heap.size := Nat.le_trans szc hz5
        have HP5 := hid P5
        have HO5 := hid O5
        clear hw5 P5 O5 kc q0 q1 q2 q3 q4 y60 y61 y62 y63 y64 y65 y50 y51 f0 f1 z0 z1 hd1 hwpc
        have i1 : IntKind.i64.wrap ((i : Int) + 1) = (i : Int) + 1 := Go.IntWalk.i64_in _ (by omega)
        have i2 : IntKind.i64.wrap (100 * ((i : Int) + 1)) = 100 * ((i : Int) + 1) := Go.IntWalk.i64_in _ (by omega)
        have i3 : IntKind.i64.wrap (100 * ((i : Int) + 1) + 50) = 100 * ((i : Int) + 1) + 50 := Go.IntWalk.i64_in _ (by omega)
        obtain ⟨mk, hmk⟩ : ∃ mk : Int → Int → Item, mk = mkOne cs[i] G a RX rx HX hx := ⟨_, rfl⟩
        have HNX : ∀ bg en, (mk bg en).next (runTo ys s ys.length) = T' := fun bg en => by rw [hmk, HT'.out, ← HTT.out]; rfl
        have HNI : ∀ bg en, ItemO w.heap.size p wv (mk bg en) := fun bg en => by
          have hR := HOR.out
          have hH := HOH.out
          rw [HA'.out] at hR hH
          rw [hmk, HA'.out]
          exact mkOne_item bwv HCI.out HFL.out HDI.out H6.out HPC.out hR hH
        have HON : ∀ bg en, 100 * (i : Int) + 2 ≤ bg → bg ≤ 100 * ((i : Int) + 1) → 100 * ((i : Int) + 1) + 50 ≤ en → OneI (runTo ys s ys.length) ys.length (mk bg en) := fun bg en h0 h1 h2 => by
          rw [hmk, HA'.out, ← HTT.out, HI.out]
          exact mkOne_one HG0.out H6.out H8.out h0 h1 h2
        have hwne : w.heap.size ≠ p := by omega
        have HMK := hid hmk
        clear hmk
        go_cut [15] (fun v15 wx => ∃ q, v15 = .pointer (some ⟨q, 0, none⟩) ∧ w5.heap.size ≤ q ∧ wx.heap[q]? = some (.cells (mk (100 * ((i : Int) + 1)) (100 * ((i : Int) + 1) + 50)).s.enc.toArray 44 (0, 0)) ∧ Below w5.heap.size w5 wx)
        case first =>
          go_region
          all_goals
            go_wp2_with fail
            go_meet
            refine ⟨_, rfl, Nat.le_refl _, ?_, (by repeat (first | with_reducible exact Below.refl _ _ | with_reducible assumption | with_reducible refine Below.drew ?_ | with_reducible refine below_drewN ?_ _ | with_reducible refine Below.alloc ?_ (by first | omega | (simp; done) | (simp; omega)) _ | with_reducible refine Below.setCell ?_ (by first | omega | (simp; done) | (simp; omega)) _))⟩
            rw [HMK.out]
            first | exact (heap_alloc_if _ _ _).trans (if_pos rfl) | (rw [heap_alloc_if, if_pos (by simp)]; rfl) | (show (World.alloc _ _).heap[_]? = _; rw [heap_alloc_if, if_pos (by simp)]; rfl)
        case rest =>
          obtain ⟨q, rfl, hq5, R6, b6⟩ := hcut
          obtain ⟨w6, hw6⟩ : ∃ w6, w6 = wc := ⟨_, rfl⟩
          subst hw6
          have O6 : Old w.heap.size p wv w6 := HO5.out.more b6 lw5
          have P6 := (b6.block p (lt_of_heap HP5.out)).trans HP5.out
          have bw6 : Below w.heap.size w w6 := bwv.trans O6.below
          have x12 := cell_of_row w6 q 12 _ _ _ R6
          have x13 := cell_of_row w6 q 13 _ _ _ R6
          rw [HMK.out] at x12 x13
          replace x12 : w6.cell? ⟨q, 12, none⟩ = some (.int .i64 (100 * ((i : Int) + 1))) := x12
          replace x13 : w6.cell? ⟨q, 13, none⟩ = some (.int .i64 (100 * ((i : Int) + 1) + 50)) := x13
          have f13 := frozen_of_row w6 q 13 _ _ R6
          have lq6 := lt_of_heap R6
          have hqv : wv.heap.size ≤ q := Nat.le_trans hz5 hq5
          have HR6 := hid R6
          have HO6 := hid O6
          have HP6 := hid P6
          clear R6 O6 P6 b6 r0 r1 r2 r3 r4 v0 v1 v2 v3 v4 v5 hq5 i1 i2 i3
          go_upto_if 92 with fail
          go_cut [15] (fun v15 wx => v15 = .pointer (some ⟨q, 0, none⟩) ∧ ∃ en : Int, 100 * ((i : Int) + 1) + 50 ≤ en ∧ wx.heap[q]? = some (.cells (mk (100 * ((i : Int) + 1)) en).s.enc.toArray 44 (0, 0)) ∧ wx.heap[p]? = some (.cells #[.slice PX T'.pairs.length px, .slice QX T'.queue.length qx] 25 (0, 0)) ∧ Old w.heap.size p wv wx)
          case first =>
            by_cases hl : i < ls.length
            · obtain ⟨fb, fo, hF, hFB, hfv⟩ := (HF.out.below bw6).numZ1 hl
              subst hF
              have LW : ∀ W, Calls Tryd.prog 15 #[.int .i64 ls[i], .int .i64 300] W fun e w' => e = .returned (.int .i64 (low ls[i] 300)) ∧ W = w' := fun W => low_any ls[i] 300 (by decide) (by decide) W
              have l0 := low_lo ls[i] 300 (by decide)
              have l1 := low_hi ls[i] 300 (by decide)
              generalize low ls[i] 300 = lw at *
              have i4 : IntKind.i64.wrap (100 * ((i : Int) + 1) + 50 + lw) = 100 * ((i : Int) + 1) + 50 + lw := Go.IntWalk.i64_in _ (by omega)
              have hfb : fb < w6.heap.size := Nat.lt_of_lt_of_le hFB bw6.size
              go_wp2_with fail
              go_region_with (go_at_call 15; refine (LW _).mono ?_; rintro e wL ⟨rfl, rfl⟩)
              all_goals
                go_wp2_with fail
                go_meet
                refine ⟨rfl, 100 * ((i : Int) + 1) + 50 + lw, by omega, ?_, (Below.heap_setCell _ _ _ _ (by show p ≠ q; omega)).trans HP6.out, (HO6.out.setNew hqv szc _ _).drew⟩
                have h := row_en HR6.out (100 * ((i : Int) + 1) + 50 + lw)
                rw [HMK.out] at h ⊢
                exact h
            · go_wp2_with fail
              go_meet
              exact ⟨rfl, _, Int.le_refl _, HR6.out, HP6.out, HO6.out⟩
          case rest =>
            obtain ⟨rfl, en, hen, R7, P7, O7⟩ := hcut
            obtain ⟨w7, hw7⟩ : ∃ w7, w7 = wc := ⟨_, rfl⟩
            subst hw7
            have bw7 : Below w.heap.size w w7 := bwv.trans O7.below
            have x12 := cell_of_row w7 q 12 _ _ _ R7
            rw [HMK.out] at x12
            replace x12 : w7.cell? ⟨q, 12, none⟩ = some (.int .i64 (100 * ((i : Int) + 1))) := x12
            have f12 := frozen_of_row w7 q 12 _ _ R7
            have lq7 := lt_of_heap R7
            have HR7 := hid R7
            have HO7 := hid O7
            have HP7 := hid P7
            clear R7 O7 P7 x13 f13 lq6 HR6 HO6 HP6 bw6
            go_upto_if 105 with fail
            go_cut [15] (fun v15 wx => v15 = .pointer (some ⟨q, 0, none⟩) ∧ ∃ bg : Int, 100 * (i : Int) + 2 ≤ bg ∧ bg ≤ 100 * ((i : Int) + 1) ∧ wx.heap[q]? = some (.cells (mk bg en).s.enc.toArray 44 (0, 0)) ∧ wx.heap[p]? = some (.cells #[.slice PX T'.pairs.length px, .slice QX T'.queue.length qx] 25 (0, 0)) ∧ Old w.heap.size p wv wx)
            case first =>
              by_cases hl : i < es.length
              · obtain ⟨fb, fo, hF, hFB, hfv⟩ := (HE.out.below bw7).numZ1 hl
                subst hF
                have LW : ∀ W, Calls Tryd.prog 15 #[.int .i64 es[i], .int .i64 99] W fun e w' => e = .returned (.int .i64 (low es[i] 99)) ∧ W = w' := fun W => low_any es[i] 99 (by decide) (by decide) W
                have l0 := low_lo es[i] 99 (by decide)
                have l1 := low_hi es[i] 99 (by decide)
                generalize low es[i] 99 = lw at *
                have i4 : IntKind.i64.wrap (100 * ((i : Int) + 1) - lw) = 100 * ((i : Int) + 1) - lw := Go.IntWalk.i64_in _ (by omega)
                have hfb : fb < w7.heap.size := Nat.lt_of_lt_of_le hFB bw7.size
                go_wp2_with fail
                go_region_with (go_at_call 15; refine (LW _).mono ?_; rintro e wL ⟨rfl, rfl⟩)
                all_goals
                  go_wp2_with fail
                  go_meet
                  refine ⟨rfl, max (100 * ((i : Int) + 1) - lw) 1, by omega, by omega, ?_, (Below.heap_setCell _ _ _ _ (by show p ≠ q; omega)).trans HP7.out, (HO7.out.setNew hqv szc _ _).drew⟩
                  have h := row_bg HR7.out (max (100 * ((i : Int) + 1) - lw) 1)
                  rw [HMK.out] at h ⊢
                  exact h
              · go_wp2_with fail
                go_meet
                exact ⟨rfl, _, by omega, Int.le_refl _, HR7.out, HP7.out, HO7.out⟩
            case rest =>
              obtain ⟨rfl, bg, hbg0, hbg1, R8, P8, O8⟩ := hcut
              obtain ⟨w8, hw8⟩ : ∃ w8, w8 = wc := ⟨_, rfl⟩
              subst hw8
              have bw8 : Below w.heap.size w w8 := bwv.trans O8.below
              have OW8 : Old w.heap.size p wr w8 := HOC.out.trans O8
              have OWN8 := hid (Own.old OW8 HO.out.sts HO.out.row)
              have lq8 := lt_of_heap R8
              have lp8 := lt_of_heap P8
              have hz8 := bw8.size
              obtain ⟨x1, x2, x3, x4, x5, x6, x7, x8, x9, x10, x11, x0, x12, x13⟩ := row_story R8
              have HP8 := hid P8
              have HO8 := hid O8
              have HOW8 := hid OW8
              have hsl : (stories ys).length ≤ 12 := by rw [show (stories ys).length = ys.length by simp [stories], HI.out]; omega
              have HSL := hid hsl
              clear R8 P8 O8 OW8 hsl HR7 HO7 HP7 f12 lq7 bw7 HP5 HO5
              go_wp2_with (at_builtin; refine app_story (l := stories ys) (m := [(mk bg en).s]) (A := A') (c := c') (lo := w.heap.size) _ rfl (.tmp 116) (.tmp 118) (by first | rfl | simp [Act.eval]) (by first | rfl | simp [Act.eval]) (OWN8.out.alloc _) 1 rfl (arr_oneStory (vb := w8.heap.size) (x := (mk bg en).s) (by rw [heap_alloc_if, if_pos (by simp)]; rfl)) (by have := HSL.out; simp; omega) (by simp; omega) ?_; intro A9 c9 w9 hown9 hgr9 hloc9)
              obtain ⟨hR9, hb9, hk9⟩ := OneR.push HO.out hsz (HNX bg en) HOC.out HPC.out HOX.out (HNI bg en) (HON bg en hbg0 hbg1 hen) HO8.out HP8.out hown9 hgr9
              have R9 := hk9 _ _ HR.out hwne
              have HR9 := hid hR9
              clear hR9 hk9
              refine ⟨⟨ys ++ [mk bg en], A9, c9, PX, px, QX, qx, ?_, ?_, ?_, HR9.out, hb.trans hb9, R9⟩, ?_⟩
              · rw [List.length_append, HI.out]; exact hlt
              · rw [List.length_append, HI.out]; rfl
              · rw [show stories (ys ++ [mk bg en]) = stories ys ++ [(mk bg en).s] by simp [stories], List.length_append]; rfl
              · simp only [intOf]; omega
    · obtain rfl : i = cs.length := by omega
      have hsl : (stories ys).length = ys.length := by simp [stories]
      have hyl2 : ys.length ≤ 12 := by rw [HI.out]; exact hl12
      have LG : ∀ W, Below wr.heap.size wr W → Calls Tryd.prog 16 #[.agg #[.slice PA s.pairs.length pc, .slice QA s.queue.length qc], .slice A' (stories ys).length c'] W (GivesB2 true W) := fun W hW => by
        rw [hsl]
        refine (legal_any ys A' c' s PA pc QA qc W ((HO.out.stsIn hsz).up hW) (by omega) ((HS.out.below (hb.trans (hW.mono hsz))).more (hb.trans (hW.mono hsz)).size) HNL.out.small (HT.out.up (hb.trans (hW.mono hsz)))).mono fun e w' hG => ?_
        exact hG.yes HM.out HO.out.law.may (Nat.le_trans (picks_len _) hyl2) HO.out.law.legal
      have q0 := cell_of_row wr _ 0 _ _ _ HR.out
      have q1 := cell_of_row wr _ 1 _ _ _ HR.out
      have ql' := lt_of_heap HR.out
      clear hsl hyl hyl2 hlt
      go_wp2_with (first | (go_at_call 16; refine (LG _ (Below.refl _ _)).mono ?_; rintro e w5 ⟨rfl, hb5⟩; have bw5 := hb.trans (hb5.mono hsz)) | (go_at_call 11; refine (AW _ bw5).mono ?_; rintro e w6 ⟨rfl, hb6⟩))
      go_ret
      exact ⟨rfl, bw5.trans (hb6.mono bw5.size)⟩
end Go.Proofs.YtamcehfcjcmpmaaDoor
