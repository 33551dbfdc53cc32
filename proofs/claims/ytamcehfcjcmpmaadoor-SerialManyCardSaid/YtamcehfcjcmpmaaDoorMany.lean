/- The statement SerialMany: the walk. -/
import Derived.Test.YtamcehfcjcmpmaaDoorSrU
import Derived.Test.YtamcehfcjcmpmaaDoorLow
import Derived.Deep.DeepCutAuto
namespace Go.Proofs.YtamcehfcjcmpmaaDoor
open Go.RowKit

theorem manyI_stories (n i : Nat) : stories (manyL n (i + 1)) = stories (manyL n i) ++ [(manyI n i).s] := by rw [manyL_succ]; simp [stories]
theorem manyL_stlen (n i : Nat) : (stories (manyL n i)).length = i := by simp [stories, manyL]
theorem many_legal (n k : Nat) (hn : n ≤ 20) (hk : k ≤ 20) (A : Option Addr) (c : Nat) (W : World) (h : Arr Story.enc 14 W W.heap.size A (stories (manyL n (n + k)))) (hc : n + k ≤ c) (hm : c ≤ 9223372036854775807) (htab : Tab W.heap.size W) :
    Calls Tryd.prog 16 #[.agg #[.slice none 0 0, .slice none 0 0], .slice A (stories (manyL n (n + k))).length c] W fun e w' => ∃ r : Bool, ∃ code : Int, e = .returned (.tuple #[.bool r, .int .i64 code]) ∧ Below W.heap.size W w' ∧ (12 < n → r = false ∧ code = 11) ∧ (n ≤ 12 → r = true ∧ code = 0) := by
  have hl : (manyL n (n + k)).length = n + k := manyL_len n (n + k)
  have hp : (picks (manyL n (n + k))).length = n := by rw [manyL_picks]; simp
  have hsts : StsIn W W.heap.size A c (manyL n (n + k)) := flatI_sts (fun x hx => by
    obtain ⟨i, -, rfl⟩ := List.mem_map.1 hx
    exact manyI_flat n i) h (by rw [hl]; exact hc) hm
  have := legal_any (manyL n (n + k)) A c ⟨[], []⟩ none 0 none 0 W hsts (by rw [hl]; omega) (shIn_nil W _) small_nil htab
  rw [hl] at this
  rw [manyL_stlen]
  refine this.mono ?_
  rintro e w' ⟨hb, r, code, rfl, -, h2, h3⟩
  have hmay : mayB (⟨[], []⟩ : Shelf).pairs = true ∧ MayS (stories (manyL n (n + k))) := ⟨rfl, manyL_may n (n + k)⟩
  refine ⟨r, code, rfl, hb, fun h => h2 hmay (by rw [hp]; exact h), fun h => ?_⟩
  obtain ⟨h4, h5⟩ := h3 hmay (by rw [hp]; exact h)
  exact ⟨h5.2 (many_law n k), h4⟩
theorem many_row (n i : Nat) : (manyI n i).s.enc.toArray = if i < n then #[.int .i64 0, .int .i64 2, .string ⟨#[97]⟩, .string ByteArray.empty, .string ByteArray.empty, .slice none 0 0, .int .i64 0, .bool (decide (0 < i)), .string ByteArray.empty, .slice none 0 0, .slice none 0 0, .int .u64 0, .int .i64 (2 * (i : Int)), .int .i64 (2 * (i : Int) + 1)] else #[.int .i64 0, .int .i64 2, .string ⟨#[97]⟩, .string ByteArray.empty, .string ByteArray.empty, .slice none 0 0, .int .i64 4, .bool false, .string ByteArray.empty, .slice none 0 0, .slice none 0 0, .int .u64 0, .int .i64 (2 * (i : Int)), .int .i64 (2 * (i : Int) + 1)] := by
  unfold manyI
  split
  · simp [flatI, flatC, Story.enc]
  · simp [flatI, flatC, Story.enc]
theorem many_put {W : World} {p : Nat} (i : Nat) (h0 : W.heap[p]? = some (.cells #[.int .i64 0, .int .i64 2, .string ⟨#[97]⟩, .string ByteArray.empty, .string ByteArray.empty, .slice none 0 0, .int .i64 0, .bool (decide (0 < i)), .string ByteArray.empty, .slice none 0 0, .slice none 0 0, .int .u64 0, .int .i64 (2 * (i : Int)), .int .i64 (2 * (i : Int) + 1)] 44 (0, 0))) :
    ((((((W.setCell ⟨p, 6, none⟩ (.int .i64 4)).setCell ⟨p, 7, none⟩ (.bool false)).setCell ⟨p, 8, none⟩ (.string ByteArray.empty)).setCell ⟨p, 9, none⟩ (.slice none 0 0)).setCell ⟨p, 10, none⟩ (.slice none 0 0)).setCell ⟨p, 11, none⟩ (.int .u64 0)).heap[p]? = some (.cells #[.int .i64 0, .int .i64 2, .string ⟨#[97]⟩, .string ByteArray.empty, .string ByteArray.empty, .slice none 0 0, .int .i64 4, .bool false, .string ByteArray.empty, .slice none 0 0, .slice none 0 0, .int .u64 0, .int .i64 (2 * (i : Int)), .int .i64 (2 * (i : Int) + 1)] 44 (0, 0)) :=
  heap_setCell_same _ p 11 _ _ (.int .u64 0) (heap_setCell_same _ p 10 _ _ (.slice none 0 0) (heap_setCell_same _ p 9 _ _ (.slice none 0 0) (heap_setCell_same _ p 8 _ _ (.string ByteArray.empty) (heap_setCell_same _ p 7 _ _ (.bool false) (heap_setCell_same _ p 6 _ _ (.int .i64 4) h0)))))
theorem low_nat (x n : Int) (hn : 1 ≤ n) : ∃ k : Nat, low x n = (k : Int) ∧ (k : Int) < n := by
  have h1 := low_lo x n hn
  have h2 := low_hi x n hn
  exact ⟨(low x n).toNat, by omega, by omega⟩
set_option maxHeartbeats 4000000 in
set_option maxRecDepth 100000 in
theorem serialMany_any (many bad : Int) (w : World) (htab : Tab w.heap.size w) :
    Calls Tryd.prog 6 #[.int .i64 many, .int .i64 bad] w fun e w' => e = .returned (.bool true) ∧ Below w.heap.size w w' := by
  have HT := hid htab
  clear htab
  have AW : ∀ W, Below w.heap.size w W → Calls Tryd.prog 11 #[] W fun e w' => e = .returned (.bool true) ∧ Below W.heap.size W w' := fun W hW => awake25 W (HT.out.up hW)
  obtain ⟨n, hn, hn2⟩ := low_nat many 20 (by decide)
  obtain ⟨k, hk, hk2⟩ := low_nat bad 20 (by decide)
  have LN : ∀ W, Calls Tryd.prog 15 #[.int .i64 many, .int .i64 20] W fun e w' => e = .returned (.int .i64 (n : Int)) ∧ W = w' := fun W => by rw [← hn]; exact low_any many 20 (by decide) (by decide) W
  have LK : ∀ W, Calls Tryd.prog 15 #[.int .i64 bad, .int .i64 20] W fun e w' => e = .returned (.int .i64 (k : Int)) ∧ W = w' := fun W => by rw [← hk]; exact low_any bad 20 (by decide) (by decide) W
  have P1 := put25 ⟨#[97]⟩ ByteArray.empty
  have LG : ∀ (A : Option Addr) (c : Nat) (W : World), Below w.heap.size w W → Arr Story.enc 14 W W.heap.size A (stories (manyL n (n + k))) → n + k ≤ c → c ≤ 9223372036854775807 → _ := fun A c W hW h hc hm => many_legal n k (by omega) (by omega) A c W h hc hm (HT.out.up hW)
  clear hn hk
  go_enter Tryd.func6, Tryd.ntmps6
  go_wp2_with (go_at_call 15; first | (refine (LN _).mono ?_; rintro e wA ⟨rfl, rfl⟩) | (refine (LK _).mono ?_; rintro e wA ⟨rfl, rfl⟩))
  clear LN LK
  go_loopw [7, 8] (fun v7 v8 wr => ∃ (i : Nat) (A : Option Addr) (c : Nat), i ≤ n + k ∧ v8 = .int .i64 i ∧ v7 = .slice A (stories (manyL n i)).length c ∧ Own Story.enc 44 14 wr w.heap.size A c (stories (manyL n i)) ∧ Below w.heap.size w wr) (fun _ v8 _ => n + k - (intOf v8).toNat)
  case atStart => exact ⟨0, none, 0, Nat.zero_le _, rfl, rfl, Own.none_, Below.refl _ _⟩
  case round =>
    obtain ⟨i, A, c, hin, rfl, rfl, hO, hb⟩ := hrel
    have hsz := hb.size
    have HO := hid hO
    clear hO
    by_cases hlt : i < n + k
    · go_upto_region 7 with (go_at_call 17; refine (P1 _).mono ?_; rintro e w1 ⟨rfl, hb1⟩)
      generalize hw2 : World.alloc w1 _ = w2
      have z1 := hb1.size
      have R2 : w2.heap[w1.heap.size]? = some (.cells #[.int .i64 0, .int .i64 2, .string ⟨#[97]⟩, .string ByteArray.empty, .string ByteArray.empty, .slice none 0 0, .int .i64 0, .bool (decide (0 < i)), .string ByteArray.empty, .slice none 0 0, .slice none 0 0, .int .u64 0, .int .i64 (2 * (i : Int)), .int .i64 (2 * (i : Int) + 1)] 44 (0, 0)) := by rw [← hw2]; exact (heap_alloc_if _ _ _).trans (if_pos rfl)
      have st2 : Below wr.heap.size wr w2 := by rw [← hw2]; exact hb1.alloc z1 _
      have hq2 : w1.heap.size < w2.heap.size := lt_of_heap R2
      have c6 := cell_of_row w2 _ 6 _ _ _ R2
      have c7 := cell_of_row w2 _ 7 _ _ _ R2
      have c8 := cell_of_row w2 _ 8 _ _ _ R2
      have c9 := cell_of_row w2 _ 9 _ _ _ R2
      have c10 := cell_of_row w2 _ 10 _ _ _ R2
      have c11 := cell_of_row w2 _ 11 _ _ _ R2
      have f6 := frozen_of_row w2 _ 6 _ _ R2
      have f7 := frozen_of_row w2 _ 7 _ _ R2
      have f8 := frozen_of_row w2 _ 8 _ _ R2
      have f9 := frozen_of_row w2 _ 9 _ _ R2
      have f10 := frozen_of_row w2 _ 10 _ _ R2
      have f11 := frozen_of_row w2 _ 11 _ _ R2
      have HR2 := hid R2
      have HW2 := hid st2
      clear hw2 R2 st2 hb1
      generalize w1.heap.size = q at *
      go_upto_if 35 with fail
      go_cut [9] (fun v9 wx => v9 = .pointer (some ⟨q, 0, none⟩) ∧ wx.heap[q]? = some (.cells (manyI n i).s.enc.toArray 44 (0, 0)) ∧ Below wr.heap.size wr wx)
      case first =>
        by_cases hin2 : i < n
        · go_wp2_with fail
          go_meet
          refine ⟨rfl, ?_, HW2.out⟩
          rw [many_row, if_pos hin2]
          exact HR2.out
        · go_wp2_with fail
          go_meet
          refine ⟨rfl, ?_, ?_⟩
          · rw [many_row, if_neg hin2]
            exact many_put i HR2.out
          · exact (((((HW2.out.setCell z1 _).setCell z1 _).setCell z1 _).setCell z1 _).setCell z1 _).setCell z1 _
      case rest =>
        obtain ⟨rfl, R3, st3⟩ := hcut
        have bw3 := hb.trans (st3.mono hsz)
        have HO3 := hid (HO.out.below st3)
        have hq3 := lt_of_heap R3
        have hlen := manyL_stlen n i
        have HLEN := hid hlen
        obtain ⟨x1, x2, x3, x4, x5, x6, x7, x8, x9, x10, x11, x0, x12, x13⟩ := row_story R3
        clear R3 HR2 HW2 hlen c6 c7 c8 c9 c10 c11 f6 f7 f8 f9 f10 f11 hq2
        go_wp2_with (at_builtin; refine app_story (l := stories (manyL n i)) (m := [(manyI n i).s]) (A := A) (c := c) (lo := w.heap.size) _ rfl (.tmp 38) (.tmp 40) (by first | rfl | simp [Act.eval]) (by first | rfl | simp [Act.eval]) (HO3.out.alloc _) 1 rfl (arr_oneStory (vb := wc.heap.size) (x := (manyI n i).s) (by rw [heap_alloc_if, if_pos (by simp)]; rfl)) (by have := HLEN.out; simp; omega) (by first | exact bw3.size | (simp; done) | (simp; have := bw3.size; omega)) ?_; intro A2 c2 w4 hown4 hgr4 hloc4)
        refine ⟨⟨i + 1, A2, c2, by omega, by go_num, ?_, ?_, ?_⟩, by simp [intOf]; omega⟩
        · rw [manyI_stories, List.length_append]; rfl
        · rw [manyI_stories]; exact hown4
        · exact ownBelow (HO3.out.alloc _) hgr4 (show Below w.heap.size w _ from (by repeat (first | exact Below.refl _ _ | assumption | refine Below.drew ?_ | refine below_drewN ?_ _ | refine Below.alloc ?_ (by first | omega | (simp; done) | (simp; omega)) _ | refine Below.setCell ?_ (by first | omega | (simp; done) | (simp; omega)) _))) (by simp; have := bw3.size; omega)
    · obtain rfl : i = n + k := by omega
      have LG1 : ∀ W, Below wr.heap.size wr W → Calls Tryd.prog 16 #[.agg #[.slice none 0 0, .slice none 0 0], .slice A (stories (manyL n (n + k))).length c] W fun e w' => ∃ r : Bool, ∃ code : Int, e = .returned (.tuple #[.bool r, .int .i64 code]) ∧ Below W.heap.size W w' ∧ (12 < n → r = false ∧ code = 11) ∧ (n ≤ 12 → r = true ∧ code = 0) := fun W hW =>
        LG A c W (hb.trans (hW.mono hsz)) (((HO.out.arr Story.enc_len).below hW).more hW.size) (by have := HO.out.len; rw [manyL_stlen] at this; exact this) HO.out.max
      clear hin hlt LG
      by_cases h12 : 12 < n
      · have h12' : (12 : Int) < (n : Int) := by omega
        have H12 := hid h12
        clear h12
        go_wp2_with (first | (go_at_call 16; refine (LG1 _ ?_).mono ?_; (exact (by repeat (first | with_reducible exact Below.refl _ _ | with_reducible assumption | with_reducible refine Below.drew ?_ | with_reducible refine below_drewN ?_ _ | with_reducible refine Below.alloc ?_ (by first | omega | (simp; done) | (simp; omega)) _ | with_reducible refine Below.setCell ?_ (by first | omega | (simp; done) | (simp; omega)) _))); rintro e w5 ⟨r, code, rfl, hb5, hr, -⟩; obtain ⟨rfl, rfl⟩ := hr H12.out; have st5 : Below wr.heap.size wr w5 := (by refine Below.trans ?_ (hb5.mono ?_); exact (by repeat (first | with_reducible exact Below.refl _ _ | with_reducible assumption | with_reducible refine Below.drew ?_ | with_reducible refine below_drewN ?_ _ | with_reducible refine Below.alloc ?_ (by first | omega | (simp; done) | (simp; omega)) _ | with_reducible refine Below.setCell ?_ (by first | omega | (simp; done) | (simp; omega)) _)); (first | exact Nat.le_refl _ | (simp; done))); have bw5 := hb.trans (st5.mono hsz)) | (go_at_call 11; refine (AW _ bw5).mono ?_; rintro e w6 ⟨rfl, hb6⟩))
        go_ret
        exact ⟨rfl, bw5.trans (hb6.mono bw5.size)⟩
      · have h12' : ¬ (12 : Int) < (n : Int) := by omega
        have H12 := hid h12
        clear h12
        go_wp2_with (first | (go_at_call 16; refine (LG1 _ ?_).mono ?_; (exact (by repeat (first | with_reducible exact Below.refl _ _ | with_reducible assumption | with_reducible refine Below.drew ?_ | with_reducible refine below_drewN ?_ _ | with_reducible refine Below.alloc ?_ (by first | omega | (simp; done) | (simp; omega)) _ | with_reducible refine Below.setCell ?_ (by first | omega | (simp; done) | (simp; omega)) _))); rintro e w5 ⟨r, code, rfl, hb5, -, hr⟩; obtain ⟨rfl, rfl⟩ := hr (Nat.le_of_not_lt H12.out); have st5 : Below wr.heap.size wr w5 := (by refine Below.trans ?_ (hb5.mono ?_); exact (by repeat (first | with_reducible exact Below.refl _ _ | with_reducible assumption | with_reducible refine Below.drew ?_ | with_reducible refine below_drewN ?_ _ | with_reducible refine Below.alloc ?_ (by first | omega | (simp; done) | (simp; omega)) _ | with_reducible refine Below.setCell ?_ (by first | omega | (simp; done) | (simp; omega)) _)); (first | exact Nat.le_refl _ | (simp; done))); have bw5 := hb.trans (st5.mono hsz)) | (go_at_call 11; refine (AW _ bw5).mono ?_; rintro e w6 ⟨rfl, hb6⟩))
        go_ret
        exact ⟨rfl, bw5.trans (hb6.mono bw5.size)⟩
end Go.Proofs.YtamcehfcjcmpmaaDoor
