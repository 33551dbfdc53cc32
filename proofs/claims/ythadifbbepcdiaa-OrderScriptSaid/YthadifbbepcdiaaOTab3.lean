/- The reference's Drop of a table of links; two lists of links compared; one written over. -/
import Derived.Test.YthadifbbepcdiaaOTab2
namespace Go.Proofs.Ythadifbbepcdiaa
open Go.RowKit

set_option maxHeartbeats 8000000 in
set_option maxRecDepth 100000 in
theorem tdrop_any {G : Nat → Prop} {L : List Link} {tb : Nat} (key : ByteArray) (w : World) (h : Tab G w tb L) (hG : ∀ j, w.heap.size ≤ j → G j) (hlen : L.length ≤ 1000) :
    Calls Try.prog 17 #[.pointer (some ⟨tb, 0, none⟩), .string key] w fun e w' => e = .returned (rightV (lookL L key)) ∧ Tab G w' tb (dropL L key) ∧ Only G w w' := by
  have htb := h.lt
  have HT := hid h
  have HGG := hid hG
  clear h hG
  go_enter Try.func17, Try.ntmps17
  go_wp2_with fail
  refine (tget_any key _ (HT.out.below (by repeat (first | exact Below.refl _ _ | assumption | refine Below.drew ?_ | refine below_drewN ?_ _ | refine Below.alloc ?_ (by first | omega | (simp; done) | (simp; omega)) _ | refine Below.setCell ?_ (by first | omega | (simp; done) | (simp; omega)) _))) hlen).mono ?_
  rintro e w1 ⟨rfl, hb1⟩
  rw [rightV_eta]
  obtain ⟨r, hr⟩ : ∃ r, r = lookL L key := ⟨_, rfl⟩
  rw [← hr]
  have HRR := hid hr
  clear hr
  have bw1 : Below w.heap.size w w1 := Below.trans (by repeat (first | exact Below.refl _ _ | assumption | refine Below.drew ?_ | refine below_drewN ?_ _ | refine Below.alloc ?_ (by first | omega | (simp; done) | (simp; omega)) _ | refine Below.setCell ?_ (by first | omega | (simp; done) | (simp; omega)) _)) (hb1.mono (show w.heap.size ≤ _ from (by first | omega | (simp; done) | (simp; omega))))
  have HX1 := hid (show BoxL w1 w.heap.size link0 from (hb1.block _ (by simp)).trans (Array.getElem?_push_size))
  have hz1 : w.heap.size < w1.heap.size := by have := hb1.size; simp at this; omega
  have htb1 : tb < w1.heap.size := by omega
  have HT1 := hid (HT.out.below bw1)
  clear hb1
  obtain ⟨h0, A, c, hc, hf, hown, hlies⟩ := HT1.out
  have HOW := hid hown
  have hln := hown.len
  have hmx := hown.max
  clear hown
  go_wp2_with fail
  refine (without_any L A c key _ ((HOW.out.arr Link.enc_len).below (by repeat (first | exact Below.refl _ _ | assumption | refine Below.drew ?_ | refine below_drewN ?_ _ | refine Below.alloc ?_ (by first | omega | (simp; done) | (simp; omega)) _ | refine Below.setCell ?_ (by first | omega | (simp; done) | (simp; omega)) _)) |>.more (by first | omega | (simp; done) | (simp; omega))) hln hmx (by omega)).mono ?_
  rintro e w2 ⟨A2, c2, rfl, hown2, hb2⟩
  have st2 : Below w1.heap.size w1 w2 := Below.trans (b := _) (show Below w1.heap.size w1 _ from (by repeat (first | exact Below.refl _ _ | assumption | refine Below.drew ?_ | refine below_drewN ?_ _ | refine Below.alloc ?_ (by first | omega | (simp; done) | (simp; omega)) _ | refine Below.setCell ?_ (by first | omega | (simp; done) | (simp; omega)) _))) (hb2.mono (by first | omega | (simp; done) | (simp; omega)))
  have hz2 : w1.heap.size < w2.heap.size := by have := hb2.size; simp at this; omega
  have bw2 : Below w.heap.size w w2 := bw1.trans (st2.mono bw1.size)
  have HX2 := hid (show BoxL w2 w.heap.size link0 from (st2.block _ hz1).trans HX1.out)
  have HY2 := hid (show BoxL w2 w1.heap.size (r.getD link0) from (hb2.block _ (by simp)).trans (Array.getElem?_push_size))
  have y0 := row_cells HY2.out 0
  have y1 := row_cells HY2.out 1
  have y2 := row_cells HY2.out 2
  have y3 := row_cells HY2.out 3
  have y4 := row_cells HY2.out 4
  have x0 := row_cells HX2.out 0
  have x1 := row_cells HX2.out 1
  have x2 := row_cells HX2.out 2
  have x3 := row_cells HX2.out 3
  have x4 := row_cells HX2.out 4
  simp [link0] at x0 x1 x2 x3 x4
  simp at y0 y1 y2 y3 y4
  have f0 := frozen_of_row w2 _ 0 _ _ HX2.out
  have f1 := frozen_of_row w2 _ 1 _ _ HX2.out
  have f2 := frozen_of_row w2 _ 2 _ _ HX2.out
  have f3 := frozen_of_row w2 _ 3 _ _ HX2.out
  have f4 := frozen_of_row w2 _ 4 _ _ HX2.out
  have hc2 := (st2.cell (p := ⟨tb, 0, none⟩) htb1).trans hc
  have hf2 := (st2.frozen (p := ⟨tb, 0, none⟩) htb1).trans hf
  have n1 : ¬ w.heap.size = tb := by omega
  have n2 : ¬ w1.heap.size = tb := by omega
  have n3 : ¬ w1.heap.size = w.heap.size := by omega
  have n4 : ¬ tb = w.heap.size := by omega
  have hlo2 := hb2.size
  simp only [World.size_alloc] at hlo2
  have HOW2 := hid (hown2.lower (lo' := w1.heap.size + 1) (by simp))
  clear hown2 hb2 hc hf
  go_wp2_with fail
  refine bodyPost_ret (v := rightV r) (by simp [results, Try.results17, go_sem, rightV, x0, x1, x2, x3, x4]) rfl ⟨by rw [HRR.out], ?_, ?_⟩
  · have hto : ∀ u0 u1 u2 u3 u4 : Value, ∀ W : World, (((((W.setCell ⟨w.heap.size, 0, none⟩ u0).setCell ⟨w.heap.size, 1, none⟩ u1).setCell ⟨w.heap.size, 2, none⟩ u2).setCell ⟨w.heap.size, 3, none⟩ u3).setCell ⟨w.heap.size, 4, none⟩ u4).heap[tb]? = W.heap[tb]? := fun u0 u1 u2 u3 u4 W => by
      rw [Below.heap_setCell _ _ _ _ n4, Below.heap_setCell _ _ _ _ n4, Below.heap_setCell _ _ _ _ n4, Below.heap_setCell _ _ _ _ n4, Below.heap_setCell _ _ _ _ n4]
    refine ⟨h0, A2, c2, (cell_same_block (p := ⟨tb, 0, none⟩) (hto _ _ _ _ _ _)).trans (World.cell?_setCell_same _ _ _ hc2), (frozen_same_block (p := ⟨tb, 0, none⟩) (hto _ _ _ _ _ _)).trans ((World.frozen?_setCell _ _ _ _).trans hf2), ?_, ?_⟩
    · have ho := HOW2.out
      have hl : ∀ {W : World} (p : Addr) (u : Value), p.block < w1.heap.size + 1 → Own Link.enc 29 5 W (w1.heap.size + 1) A2 c2 (dropL L key) → Own Link.enc 29 5 (W.setCell p u) (w1.heap.size + 1) A2 c2 (dropL L key) := fun p u hp h => h.setCell hp u
      exact (hl _ _ (by simp; omega) (hl _ _ (by simp; omega) (hl _ _ (by simp; omega) (hl _ _ (by simp; omega) (hl _ _ (by simp; omega) (hl _ _ (by simp; omega) ho)))))).lower (Nat.zero_le _)
    · rcases HOW2.out.lt with hc0 | ⟨b, off, hA, hlo, hlt'⟩
      · exact .inl hc0
      · exact .inr fun b' o' hA' => by rw [hA] at hA'; cases hA'; exact ⟨HGG.out _ (by omega), by omega⟩
  · have hg := HGG.out w.heap.size (Nat.le_refl _)
    exact ((((((Only.of_below bw2).setCell _ _ h0).setCell _ _ hg).setCell _ _ hg).setCell _ _ hg).setCell _ _ hg).setCell _ _ hg

set_option maxHeartbeats 4000000 in
set_option maxRecDepth 100000 in
theorem sameL_any (l : List Link) (A A' : Option Addr) (c c' : Nat) (w : World) (h : Arr Link.enc 5 w w.heap.size A l) (h' : Arr Link.enc 5 w w.heap.size A' l) (hc : l.length ≤ c) (hm : c ≤ 9223372036854775807) (_hc' : l.length ≤ c') (_hm' : c' ≤ 9223372036854775807) :
    Calls Try.prog 20 #[.slice A l.length c, .slice A' l.length c'] w fun e w' => e = .returned (.bool true) ∧ Below w.heap.size w w' := by
  have H := hid h
  have H' := hid h'
  clear h h'
  go_enter Try.func20, Try.ntmps20
  go_wp2_with fail
  go_loopw [5] (fun i wr => ∃ k : Nat, k ≤ l.length ∧ i = .int .i64 k ∧ Below w.heap.size w wr) (fun i _ => l.length - (intOf i).toNat)
  case atStart => exact ⟨0, Nat.zero_le _, rfl, Below.refl _ _⟩
  case round =>
    obtain ⟨k, hkl, rfl, hb⟩ := hrel
    by_cases hlt : k < l.length
    · obtain ⟨b, off, rfl, hB, c0, c1, c2, c3, c4⟩ := (H.out.below hb).link hlt
      obtain ⟨b', off', rfl, hB', d0, d1, d2, d3, d4⟩ := (H'.out.below hb).link hlt
      go_wp2_with fail
      go_quiet (fail)
      go_wp2
      exact ⟨⟨k + 1, by omega, by go_num, below_drewN hb _⟩, by simp [intOf]; omega⟩
    · go_wp2
      go_ret
      exact ⟨rfl, hb⟩

theorem below_set5' {B : Nat} {w w' : World} {b : Nat} (h : Below B w w') (hb : B ≤ b) (o : Nat) (u0 u1 u2 u3 u4 : Value) : Below B w (((((w'.setCell ⟨b, o, none⟩ u0).setCell ⟨b, o + 1, none⟩ u1).setCell ⟨b, o + 2, none⟩ u2).setCell ⟨b, o + 3, none⟩ u3).setCell ⟨b, o + 4, none⟩ u4) :=
  ((((h.setCell hb _).setCell hb _).setCell hb _).setCell hb _).setCell hb _
def linkOver : Link := ⟨⟨#[111, 118, 101, 114]⟩, 0, 0, -9, 0⟩
set_option maxHeartbeats 4000000 in
set_option maxRecDepth 100000 in
theorem overL_any (l : List Link) (A : Option Addr) (c lo : Nat) (w : World) (h : Own Link.enc 29 5 w lo A c l) (hlo : lo ≤ w.heap.size) (hlen : l.length ≤ 100000) :
    Calls Try.prog 21 #[.slice A l.length c] w fun e w' => e = .returned (.tuple #[]) ∧ Below lo w w' := by
  have H := hid h
  have hln := h.len
  have hmx := h.max
  clear h
  go_enter Try.func21, Try.ntmps21
  go_wp2_with fail
  go_loopw [2] (fun i wr => ∃ (k : Nat) (M : List Link), k ≤ l.length ∧ i = .int .i64 k ∧ M.length = l.length ∧ Own Link.enc 29 5 wr lo A c M ∧ Below lo w wr) (fun i _ => l.length - (intOf i).toNat)
  case atStart => exact ⟨0, l, Nat.zero_le _, rfl, rfl, H.out, Below.refl _ _⟩
  case round =>
    obtain ⟨k, M, hkl, rfl, hM, hP, hb⟩ := hrel
    have HP := hid hP
    have HM := hid hM
    have hsz := hb.size
    clear hP hM
    by_cases hlt : k < l.length
    · obtain ⟨b, off, rfl, hlb, hbw⟩ : ∃ b off, A = some ⟨b, off, none⟩ ∧ lo ≤ b ∧ b < w.heap.size := by
        rcases H.out.lt with h0 | h0
        · omega
        · exact h0
      have f0 := HP.out.frozen rfl (by omega) (off + k * 5)
      have f1 := HP.out.frozen rfl (by omega) (off + k * 5 + 1)
      have f2 := HP.out.frozen rfl (by omega) (off + k * 5 + 2)
      have f3 := HP.out.frozen rfl (by omega) (off + k * 5 + 3)
      have f4 := HP.out.frozen rfl (by omega) (off + k * 5 + 4)
      obtain ⟨b', off', hA, hB, d0, d1, d2, d3, d4⟩ := (HP.out.arr Link.enc_len).link (i := k) (by have := HM.out; omega)
      cases hA
      go_wp2_with fail
      exact ⟨⟨k + 1, M.set k linkOver, by omega, by go_num, by rw [List.length_set]; exact HM.out, HP.out.setLink (by have := HM.out; omega) linkOver, below_set5' hb hlb _ _ _ _ _ _⟩, by simp [intOf]; omega⟩
    · have hML := HM.out
      rw [← hML]
      go_wp2_with (at_builtin; refine app_link (l := M) (m := [⟨⟨#[98, 101, 121, 111, 110, 100]⟩, 0, 0, 0, 0⟩]) (A := A) (c := c) (lo := lo) _ rfl (.tmp 13) (.tmp 15) (by first | rfl | simp [Act.eval]) rfl (HP.out.alloc _) 1 rfl (arr_oneLink (row_new _ _ _)) (by simp; omega) (by simp; omega) ?_; intro A3 c3 w3 hown3 hgr3 hloc3)
      refine bodyPost_end (v := .tuple #[]) (by simp [results, Try.results21]) rfl ⟨rfl, own_below (HP.out.alloc _) hgr3 (show Below lo w _ from (by repeat (first | exact Below.refl _ _ | assumption | refine Below.drew ?_ | refine below_drewN ?_ _ | refine Below.alloc ?_ (by first | omega | (simp; done) | (simp; omega)) _ | refine Below.setCell ?_ (by first | omega | (simp; done) | (simp; omega)) _))) (by simp; omega)⟩
end Go.Proofs.Ythadifbbepcdiaa
