/- The statement OrderLevels: the walk. -/
import Derived.Test.YthadifbbepcdiaaOPlay
import Derived.Laws.StructEq
namespace Go.Proofs.Ythadifbbepcdiaa
open Go.RowKit

theorem right_mem {l : List Link} {pos : ByteArray} {past : Bool} {y : Link} (h : rightIn l pos past = some y) : y ∈ l ∧ (!past || kl pos y.key) = true := ⟨List.mem_of_find?_eq_some h, List.find?_some (p := fun y : Link => !past || kl pos y.key) h⟩
/-- what is there on a higher level is on the lower one, too, at or behind what is there first -/
theorem right_sub {L : List Link} {k : Nat} {pos : ByteArray} {past : Bool} {y : Link} (h : rightIn (atLv L (k + 1)) pos past = some y) :
    ∃ i j, i ≤ j ∧ ∃ hj : j < (atLv L k).length, ∃ hi : i < (atLv L k).length, (atLv L k)[j] = y ∧ rightIn (atLv L k) pos past = some (atLv L k)[i] := by
  obtain ⟨hy, hp⟩ := right_mem h
  have hm : y ∈ atLv L k := by
    unfold atLv at hy ⊢
    rw [List.mem_filter] at hy ⊢
    refine ⟨hy.1, ?_⟩
    have := hy.2
    simp [onLv] at this ⊢
    omega
  obtain ⟨j, hj, hjy⟩ := List.getElem_of_mem hm
  have hs : (rightIn (atLv L k) pos past).isSome = true := by
    rw [rightIn, List.find?_isSome]
    exact ⟨y, hm, hp⟩
  obtain ⟨x, hx⟩ := Option.isSome_iff_exists.1 hs
  obtain ⟨hpx, i, hi, hix, hbef⟩ := List.find?_eq_some_iff_getElem.1 hx
  refine ⟨i, j, ?_, hj, hi, hjy, by rw [hx, hix]⟩
  rcases Nat.lt_or_ge j i with h | h
  · have := hbef j h
    rw [hjy] at this
    simp [hp] at this
  · exact h
theorem right_next {l : List Link} (hr : Rise l) {i : Nat} (hi : i + 1 < l.length) : rightIn l (l[i]'(by omega)).key true = some l[i + 1] := by
  refine List.find?_eq_some_iff_getElem.2 ⟨by simpa using rise_lt hr hi (Nat.lt_succ_self i), i + 1, hi, rfl, fun j hj => ?_⟩
  have : kl (l[i]'(by omega)).key (l[j]'(by omega)).key = false := by
    rcases (by omega : j = i ∨ j < i) with rfl | h
    · exact kl_irrefl _
    · exact kl_asymm (rise_lt hr (by omega) h)
  simp [this]
theorem lv_mono (L : List Link) (k : Nat) : (atLv L (k + 1)).length ≤ (atLv L k).length := by
  unfold atLv
  rw [← List.countP_eq_length_filter, ← List.countP_eq_length_filter]
  exact List.countP_mono_left fun x _ h => by simp [onLv] at h ⊢; omega
theorem lv_le0 (L : List Link) : ∀ k, (atLv L k).length ≤ (atLv L 0).length
  | 0 => Nat.le_refl _
  | k + 1 => Nat.le_trans (lv_mono L k) (lv_le0 L k)
theorem rightV_some (x : Link) : rightV (some x) = .tuple #[.agg #[.string x.key, .int .u64 x.id, .int .u64 x.ver, .int .i64 x.line, .int .i64 x.cls], .bool true] := rfl
theorem rightV_none : rightV none = .tuple #[.agg #[.string ByteArray.empty, .int .u64 0, .int .u64 0, .int .i64 0, .int .i64 0], .bool false] := rfl
theorem rightV_eta (r : Option Link) : rightV r = .tuple #[.agg #[.string (r.getD link0).key, .int .u64 (r.getD link0).id, .int .u64 (r.getD link0).ver, .int .i64 (r.getD link0).line, .int .i64 (r.getD link0).cls], .bool r.isSome] := rfl
/-- the levels of an order, of levels that rise -/
structure OrdR (w : World) (B : Nat) (ob : Nat) (L : List Link) : Prop where
  ord : Ord (fun j => B ≤ j ∧ j < w.heap.size) w ob (atLv L)

/-- a link in a variable -/
def BoxL (w : World) (b : Nat) (x : Link) : Prop := w.heap[b]? = some (.cells #[.string x.key, .int .u64 x.id, .int .u64 x.ver, .int .i64 x.line, .int .i64 x.cls] 29 (0, 0))

theorem box_set {w : World} {b : Nat} {x : Link} (y : Link) (h : BoxL w b x) : BoxL (((((w.setCell ⟨b, 0, none⟩ (.string y.key)).setCell ⟨b, 1, none⟩ (.int .u64 y.id)).setCell ⟨b, 2, none⟩ (.int .u64 y.ver)).setCell ⟨b, 3, none⟩ (.int .i64 y.line)).setCell ⟨b, 4, none⟩ (.int .i64 y.cls)) b y := by
  have h0 := heap_setCell_same w b 0 _ _ (.string y.key) h
  have h1 := heap_setCell_same _ b 1 _ _ (.int .u64 y.id) h0
  have h2 := heap_setCell_same _ b 2 _ _ (.int .u64 y.ver) h1
  have h3 := heap_setCell_same _ b 3 _ _ (.int .i64 y.line) h2
  have h4 := heap_setCell_same _ b 4 _ _ (.int .i64 y.cls) h3
  exact h4
theorem box_other {w : World} {b b' : Nat} {x : Link} (hb : b' ≠ b) (h : BoxL w b x) (u0 u1 u2 u3 u4 : Value) : BoxL (((((w.setCell ⟨b', 0, none⟩ u0).setCell ⟨b', 1, none⟩ u1).setCell ⟨b', 2, none⟩ u2).setCell ⟨b', 3, none⟩ u3).setCell ⟨b', 4, none⟩ u4) b x := by
  have hb' : b ≠ b' := Ne.symm hb
  exact (Below.heap_setCell _ _ _ _ hb').trans ((Below.heap_setCell _ _ _ _ hb').trans ((Below.heap_setCell _ _ _ _ hb').trans ((Below.heap_setCell _ _ _ _ hb').trans ((Below.heap_setCell _ _ _ _ hb').trans h))))
theorem below_set5 {B : Nat} {w w' : World} {b : Nat} (h : Below B w w') (hb : B ≤ b) (u0 u1 u2 u3 u4 : Value) : Below B w (((((w'.setCell ⟨b, 0, none⟩ u0).setCell ⟨b, 1, none⟩ u1).setCell ⟨b, 2, none⟩ u2).setCell ⟨b, 3, none⟩ u3).setCell ⟨b, 4, none⟩ u4) :=
  ((((h.setCell hb _).setCell hb _).setCell hb _).setCell hb _).setCell hb _
set_option maxHeartbeats 8000000 in
set_option maxRecDepth 100000 in
theorem orderLevels_any (l : List ActR) (A : Option Addr) (c : Nat) (pos : ByteArray) (past : Bool) (w : World) (h : ActsIn w w.heap.size A c l) : Calls Try.prog 3 #[.slice A l.length c, .string pos, .bool past] w fun e w' => e = .returned (.bool true) ∧ Below w.heap.size w w' := by
  have H := hid h
  clear h
  by_cases hps : (200 : Int) < (pos.size : Int)
  · go_enter Try.func3, Try.ntmps3
    go_wp2_with fail
    refine (large_any l A c _ H.out).mono ?_
    rintro e w1 ⟨b, rfl, rfl, hfew⟩
    clear hfew
    cases b with
    | true =>
      go_wp2_with fail
      refine (awake13 _).mono ?_
      rintro e w4 ⟨rfl, hb4⟩
      go_wp2
      go_ret
      exact ⟨rfl, hb4⟩
    | false =>
      go_wp2_with fail
      refine (awake13 _).mono ?_
      rintro e w4 ⟨rfl, hb4⟩
      go_wp2
      go_ret
      exact ⟨rfl, hb4⟩
  go_enter Try.func3, Try.ntmps3
  go_wp2_with fail
  refine (large_any l A c _ H.out).mono ?_
  rintro e w1 ⟨b, rfl, rfl, hfew⟩
  cases b with
  | true =>
    clear hfew
    go_wp2_with fail
    refine (awake13 _).mono ?_
    rintro e w4 ⟨rfl, hb4⟩
    go_wp2
    go_ret
    exact ⟨rfl, hb4⟩
  | false =>
  have HFEW := hid (hfew rfl)
  clear hfew
  go_wp2_with fail
  refine (played_any l A c _ H.out HFEW.out).mono ?_
  rintro e w1 ⟨rfl, ho1, hb1⟩
  have HL := hid (playL_rise l l.length (Nat.le_refl _))
  rw [List.take_length] at HL
  obtain ⟨L, hL⟩ : ∃ L, L = playL l := ⟨_, rfl⟩
  rw [← hL] at HL ho1
  have HR := hid HL.out.1
  have hLl : L.length ≤ 120 := Nat.le_trans HL.out.2 HFEW.out.1
  have HO1 := hid ho1.trim
  have hz1 := ho1.lt
  clear hL HL ho1
  go_wp2_with fail
  go_loopw [8] (fun vk wr => ∃ k : Nat, k ≤ 3 ∧ vk = .int .i64 ((k : Int) + 1) ∧ Ord (fun j => w.heap.size ≤ j ∧ j < w1.heap.size) wr w.heap.size (atLv L) ∧ Below w.heap.size w wr) (fun vk _ => 5 - (intOf vk).toNat)
  case atStart => exact ⟨0, by omega, rfl, HO1.out, hb1⟩
  case round =>
    obtain ⟨k, hk3, rfl, hord, hbw⟩ := hrel
    obtain ⟨wo, hwo⟩ : ∃ x, x = wr := ⟨_, rfl⟩
    subst hwo
    have HORD := hid hord
    have hsz := hbw.size
    clear hord
    by_cases hlt : k < 3
    · have hlt4 : (k : Int) + 1 < 4 := by omega
      have hll := lv_len L k
      have hll1 := lv_len L (k + 1)
      have hll0 := lv_le0 L k
      go_wp2_with fail
      refine (right_at (k := k) (by omega) _ rfl pos past _ (HORD.out.below (by repeat (first | exact Below.refl _ _ | assumption | refine Below.drew ?_ | refine below_drewN ?_ _ | refine Below.alloc ?_ (by first | omega | (simp; done) | (simp; omega)) _ | refine Below.setCell ?_ (by first | omega | (simp; done) | (simp; omega)) _))) (rise_lv HR.out k) (by omega)).mono ?_
      rintro e wA ⟨rfl, hbA⟩
      have stA : Below wo.heap.size wo wA := Below.trans (by repeat (first | exact Below.refl _ _ | assumption | refine Below.drew ?_ | refine below_drewN ?_ _ | refine Below.alloc ?_ (by first | omega | (simp; done) | (simp; omega)) _ | refine Below.setCell ?_ (by first | omega | (simp; done) | (simp; omega)) _)) (hbA.mono (show wo.heap.size ≤ _ from (by first | omega | (simp; done) | (simp; omega))))
      have hzA := hbA.size
      clear hbA
      cases hr2 : rightIn (atLv L (k + 1)) pos past with
      | none =>
        have HR2 := hid hr2
        obtain ⟨r, hr⟩ : ∃ r, r = rightIn (atLv L k) pos past := ⟨_, rfl⟩
        rw [← hr, rightV_eta]
        clear hr hr2
        go_wp2_with fail
        refine (right_at (k := k + 1) (by omega) _ (by omega) pos past _ (HORD.out.below (by repeat (first | exact Below.refl _ _ | assumption | refine Below.drew ?_ | refine below_drewN ?_ _ | refine Below.alloc ?_ (by first | omega | (simp; done) | (simp; omega)) _ | refine Below.setCell ?_ (by first | omega | (simp; done) | (simp; omega)) _))) (rise_lv HR.out (k + 1)) (by omega)).mono ?_
        rintro e wB ⟨rfl, hbB⟩
        rw [HR2.out, rightV_none]
        have stB : Below wo.heap.size wo wB := Below.trans (b := _) (by repeat (first | exact Below.refl _ _ | assumption | refine Below.drew ?_ | refine below_drewN ?_ _ | refine Below.alloc ?_ (by first | omega | (simp; done) | (simp; omega)) _ | refine Below.setCell ?_ (by first | omega | (simp; done) | (simp; omega)) _)) (hbB.mono (show wo.heap.size ≤ _ from (by first | omega | (simp; done) | (simp; omega))))
        have hzB := stB.size
        clear hbB
        go_wp2_with fail
        go_loopw [13] (fun vn wr => vn = .int .i64 0 ∧ Below wo.heap.size wo wr) (fun _ _ => 0)
        case atStart => exact ⟨rfl, (by repeat (first | exact Below.refl _ _ | assumption | refine Below.drew ?_ | refine below_drewN ?_ _ | refine Below.alloc ?_ (by first | omega | (simp; done) | (simp; omega)) _ | refine Below.setCell ?_ (by first | omega | (simp; done) | (simp; omega)) _))⟩
        case round =>
          obtain ⟨rfl, hbi⟩ := hrel
          go_wp2_with fail
          go_roundw
          case rel => exact ⟨k + 1, by omega, by go_num, HORD.out.below hbi, hbw.trans (hbi.mono hsz)⟩
          case measure => simp [intOf]; omega
      | some y =>
        obtain ⟨i, j, hij, hj, hi, hy, hr1⟩ := right_sub hr2
        have HR2 := hid hr2
        rw [hr1, rightV_some]
        have hyx : Op.bytesLess y.key.toList (atLv L k)[i].key.toList = false := by
          rw [← hy]
          rcases Nat.lt_or_ge i j with h | h
          · exact kl_asymm (rise_lt (rise_lv HR.out k) hj h)
          · obtain rfl : i = j := by omega
            exact kl_irrefl _
        clear hr1 hr2
        go_wp2_with fail
        refine (right_at (k := k + 1) (by omega) _ (by omega) pos past _ (HORD.out.below (by repeat (first | exact Below.refl _ _ | assumption | refine Below.drew ?_ | refine below_drewN ?_ _ | refine Below.alloc ?_ (by first | omega | (simp; done) | (simp; omega)) _ | refine Below.setCell ?_ (by first | omega | (simp; done) | (simp; omega)) _))) (rise_lv HR.out (k + 1)) (by omega)).mono ?_
        rintro e wB ⟨rfl, hbB⟩
        rw [HR2.out, rightV_some]
        have stB : Below wo.heap.size wo wB := Below.trans (b := _) (by repeat (first | exact Below.refl _ _ | assumption | refine Below.drew ?_ | refine below_drewN ?_ _ | refine Below.alloc ?_ (by first | omega | (simp; done) | (simp; omega)) _ | refine Below.setCell ?_ (by first | omega | (simp; done) | (simp; omega)) _)) (hbB.mono (show wo.heap.size ≤ _ from (by first | omega | (simp; done) | (simp; omega))))
        have hzB := stB.size
        have hAB : wA.heap.size < wB.heap.size := by have := hbB.size; simp at this; omega
        have HXB := hid (show wB.heap[wA.heap.size]? = some (.cells #[.string (atLv L k)[i].key, .int .u64 (atLv L k)[i].id, .int .u64 (atLv L k)[i].ver, .int .i64 (atLv L k)[i].line, .int .i64 (atLv L k)[i].cls] 29 (0, 0)) from (hbB.block _ (by simp)).trans Array.getElem?_push_size)
        clear hbB
        have xb0 := row_cells HXB.out 0
        simp at xb0
        go_wp2_with fail
        go_loopw [10, 13] (fun v10 vn wr => ∃ n : Nat, i + n ≤ j ∧ v10 = .bool true ∧ vn = .int .i64 n ∧ Below wo.heap.size wo wr ∧ wB.heap.size < wr.heap.size ∧ (∃ h : i + n < (atLv L k).length, BoxL wr wA.heap.size (atLv L k)[i + n]) ∧ BoxL wr wB.heap.size y) (fun _ vn _ => j - (intOf vn).toNat)
        case atStart =>
          refine ⟨0, by omega, rfl, rfl, (by repeat (first | exact Below.refl _ _ | assumption | refine Below.drew ?_ | refine below_drewN ?_ _ | refine Below.alloc ?_ (by first | omega | (simp; done) | (simp; omega)) _ | refine Below.setCell ?_ (by first | omega | (simp; done) | (simp; omega)) _)), by simp, ⟨hi, ?_⟩, ?_⟩
          · exact (Below.heap_alloc _ _ _ hAB).trans HXB.out
          · exact Array.getElem?_push_size
        case round =>
          obtain ⟨n, hnj, rfl, rfl, hbi, hsi, ⟨hin, hx⟩, hyb⟩ := hrel
          have HX := hid hx
          have HY := hid hyb
          have x0 := row_cells hx 0
          have x1 := row_cells hx 1
          have x2 := row_cells hx 2
          have x3 := row_cells hx 3
          have x4 := row_cells hx 4
          have y0 := row_cells hyb 0
          have y1 := row_cells hyb 1
          have y2 := row_cells hyb 2
          have y3 := row_cells hyb 3
          have y4 := row_cells hyb 4
          simp at x0 x1 x2 x3 x4 y0 y1 y2 y3 y4
          have hzi := hbi.size
          have hnl : n < (atLv L 0).length := by omega
          clear hx hyb
          by_cases hlj : i + n < j
          · have hkl := rise_lt (rise_lv HR.out k) hj hlj
            rw [hy] at hkl
            have hbl : Op.bytesLess (atLv L k)[i + n].key.toList y.key.toList = true := hkl
            clear hkl
            go_wp2_with fail
            refine (len_any (lv := atLv L) (ob := w.heap.size) _ (HORD.out.below hbi)).mono ?_
            rintro e wL ⟨rfl, rfl⟩
            go_wp2_with fail
            refine (right_at (k := k) (by omega) _ rfl (atLv L k)[i + n].key true _ (HORD.out.below hbi) (rise_lv HR.out k) (by omega)).mono ?_
            rintro e wR ⟨rfl, hbR⟩
            rw [right_next (rise_lv HR.out k) (show i + n + 1 < (atLv L k).length by omega), rightV_some]
            have hzR := hbR.size
            have HXR := hid ((hbR.block _ (by omega)).trans HX.out)
            have HYR := hid ((hbR.block _ hsi).trans HY.out)
            have f0 := frozen_of_row wR _ 0 _ _ HXR.out
            have f1 := frozen_of_row wR _ 1 _ _ HXR.out
            have f2 := frozen_of_row wR _ 2 _ _ HXR.out
            have f3 := frozen_of_row wR _ 3 _ _ HXR.out
            have f4 := frozen_of_row wR _ 4 _ _ HXR.out
            have z0 := row_cells HXR.out 0
            have z1 := row_cells HXR.out 1
            have z2 := row_cells HXR.out 2
            have z3 := row_cells HXR.out 3
            have z4 := row_cells HXR.out 4
            simp at z0 z1 z2 z3 z4
            have bwR := hbi.trans (hbR.mono hzi)
            clear x0 x1 x2 x3 x4 y0 y1 y2 y3 y4 hbR
            go_wp2_with fail
            go_roundw
            case rel => exact ⟨n + 1, by omega, rfl, by go_num, below_set5 bwR hzA _ _ _ _ _, by simp; omega, ⟨by omega, box_set _ HXR.out⟩, box_other (by omega) HYR.out _ _ _ _ _⟩
            case measure => simp [intOf]; omega
          · go_wp2_with fail
            refine (len_any (lv := atLv L) (ob := w.heap.size) _ (HORD.out.below hbi)).mono ?_
            rintro e wL ⟨rfl, rfl⟩
            have hij2 : i + n = j := by omega
            subst hij2
            have hbl : Op.bytesLess (atLv L k)[i + n].key.toList y.key.toList = false := by rw [hy]; exact kl_irrefl _
            rw [hy] at x0 x1 x2 x3 x4 hbl
            go_wp2_with fail
            go_roundw
            case rel => exact ⟨k + 1, by omega, by go_num, HORD.out.below hbi, hbw.trans (hbi.mono hsz)⟩
            case measure => simp [intOf]; omega
    · have h3 : k = 3 := by omega
      subst h3
      go_wp2_with fail
      refine (awake13 _).mono ?_
      rintro e w4 ⟨rfl, hb4⟩
      go_wp2
      go_ret
      exact ⟨rfl, hbw.trans (hb4.mono hsz)⟩
end Go.Proofs.Ythadifbbepcdiaa
