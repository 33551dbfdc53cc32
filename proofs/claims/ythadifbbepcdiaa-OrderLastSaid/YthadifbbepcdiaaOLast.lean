/- The statement OrderLast: the walk. -/
import Derived.Test.YthadifbbepcdiaaOTab
import Derived.Test.YthadifbbepcdiaaOLevels
namespace Go.Proofs.Ythadifbbepcdiaa
open Go.RowKit

theorem look_split (A B : List Link) (key : ByteArray) : lookL (A ++ B) key = (lookL A key).or (lookL B key) := List.find?_append
theorem look_cons (x : Link) (L : List Link) (key : ByteArray) : lookL (x :: L) key = if x.key = key then some x else lookL L key := by
  unfold lookL
  rw [List.find?_cons]
  by_cases h : x.key = key <;> simp [h]
theorem look_none {A : List Link} {key : ByteArray} (h : ∀ a ∈ A, a.key ≠ key) : lookL A key = none := by
  rw [lookL, List.find?_eq_none]
  intro a ha
  simpa using h a ha
theorem look_set {L : List Link} (h : Rise L) (x : Link) (key : ByteArray) : lookL (setL L x) key = if x.key = key then some x else lookL L key := by
  obtain ⟨A, m, B, rfl, hA, hB, hm⟩ := rise_cut L x.key h
  rw [cut_set hA hB hm rfl, look_split, look_cons]
  by_cases hk : x.key = key
  · subst hk
    rw [if_pos rfl, if_pos rfl, look_none fun a ha => kl_ne (hA a ha)]
    rfl
  · rw [if_neg hk, if_neg hk, look_split, look_split]
    have : lookL m key = none := by
      rcases hm with rfl | ⟨y, rfl, hy⟩
      · rfl
      · rw [look_cons, if_neg (by rw [hy]; exact hk)]; rfl
    rw [this, Option.none_or]
theorem look_drop (L : List Link) (k key : ByteArray) : lookL (dropL L k) key = if k = key then none else lookL L key := by
  induction L with
  | nil => simp [dropL, lookL]
  | cons x L ih =>
    have e : dropL (x :: L) k = if x.key = k then dropL L k else x :: dropL L k := by
      unfold dropL
      rw [List.filter_cons]
      by_cases h : x.key = k <;> simp [h]
    rw [e, look_cons]
    by_cases h : x.key = k
    · rw [if_pos h, ih]
      by_cases h2 : k = key
      · rw [if_pos h2, if_pos h2]
      · rw [if_neg h2, if_neg h2, if_neg (by rw [h]; exact h2)]
    · rw [if_neg h, look_cons, ih]
      by_cases h2 : k = key
      · rw [if_pos h2, if_pos h2, if_neg (by rw [← h2]; exact h)]
      · rw [if_neg h2, if_neg h2]
theorem look_step {L : List Link} (h : Rise L) (a : ActR) (key : ByteArray) : lookL (stepL L a) key = if a.l.key = key ∧ a.what = 0 then some a.l else if a.l.key = key ∧ a.what = 1 then none else lookL L key := by
  unfold stepL
  by_cases t0 : a.what = 0
  · rw [if_pos t0, look_set h]
    by_cases hk : a.l.key = key
    · rw [if_pos hk, if_pos ⟨hk, t0⟩]
    · rw [if_neg hk, if_neg (fun h => hk h.1), if_neg (fun h => hk h.1)]
  · rw [if_neg t0]
    by_cases t1 : a.what = 1
    · rw [if_pos t1, look_drop]
      by_cases hk : a.l.key = key
      · rw [if_pos hk, if_neg (fun h => t0 h.2), if_pos ⟨hk, t1⟩]
      · rw [if_neg hk, if_neg (fun h => hk h.1), if_neg (fun h => hk h.1)]
    · rw [if_neg t1, if_neg (fun h => t0 h.2), if_neg (fun h => t1 h.2)]
theorem look_take {L : List Link} (h : Rise L) {k : Nat} (hk : k < L.length) (key : ByteArray) : lookL (L.take (k + 1)) key = if L[k].key = key then some L[k] else lookL (L.take k) key := by
  rw [List.take_succ_eq_append_getElem hk, look_split, look_cons]
  by_cases he : L[k].key = key
  · rw [if_pos he, if_pos he, look_none]
    · rfl
    · intro a ha
      obtain ⟨j, hj, rfl⟩ := List.getElem_of_mem ha
      rw [List.length_take] at hj
      rw [List.getElem_take, ← he]
      exact kl_ne (rise_lt h hk (by omega))
  · rw [if_neg he, if_neg he]
    have : lookL [] key = none := rfl
    rw [this, Option.or_none]
theorem has_drop (L : List Link) (key : ByteArray) : hasL (dropL L key) key = false := by
  rw [← look_has, look_drop, if_pos rfl]
  rfl
theorem box_new (w : World) (x : Link) : BoxL (w.alloc (.cells #[.string x.key, .int .u64 x.id, .int .u64 x.ver, .int .i64 x.line, .int .i64 x.cls] 29)) w.heap.size x := Array.getElem?_push_size
set_option maxHeartbeats 8000000 in
set_option maxRecDepth 100000 in
theorem orderLast_any (l : List ActR) (A : Option Addr) (c : Nat) (key : ByteArray) (w : World) (h : ActsIn w w.heap.size A c l) : Calls Try.prog 6 #[.slice A l.length c, .string key] w fun e w' => e = .returned (.bool true) ∧ Below w.heap.size w w' := by
  have H := hid h
  clear h
  by_cases hps : (200 : Int) < (key.size : Int)
  · go_enter Try.func6, Try.ntmps6
    go_wp2_with fail
    refine (large_any l A c _ H.out).mono ?_
    rintro e w1 ⟨b, rfl, rfl, hfew⟩
    clear hfew
    cases b with
    | true =>
      go_wp2_with fail
      refine (awake13 _).mono ?_
      rintro e w4 ⟨rfl, hb4⟩
      go_wp2
      go_ret
      exact ⟨rfl, hb4⟩
    | false =>
      go_wp2_with fail
      refine (awake13 _).mono ?_
      rintro e w4 ⟨rfl, hb4⟩
      go_wp2
      go_ret
      exact ⟨rfl, hb4⟩
  go_enter Try.func6, Try.ntmps6
  go_wp2_with fail
  refine (large_any l A c _ H.out).mono ?_
  rintro e w1 ⟨b, rfl, rfl, hfew⟩
  cases b with
  | true =>
    clear hfew
    go_wp2_with fail
    refine (awake13 _).mono ?_
    rintro e w4 ⟨rfl, hb4⟩
    go_wp2
    go_ret
    exact ⟨rfl, hb4⟩
  | false =>
  have HFEW := hid (hfew rfl)
  clear hfew
  go_wp2_with fail
  refine (played_any l A c _ H.out HFEW.out).mono ?_
  rintro e w1 ⟨rfl, ho1, hb1⟩
  have HRL := hid (fun k hk => (playL_rise l k hk).1)
  have HL := hid (playL_rise l l.length (Nat.le_refl _))
  have HO1 := hid ho1
  have hz1 := ho1.lt
  have hz11 := hb1.size
  have hmx := H.out.max
  have hln := H.out.len
  clear ho1
  go_wp2_with fail
  go_loopw [7, 8] (fun v7 v8 wr => ∃ k : Nat, k ≤ l.length ∧ v8 = .int .i64 k ∧ v7 = .bool (lookL (playL (l.take k)) key).isSome ∧ BoxL wr w1.heap.size ((lookL (playL (l.take k)) key).getD link0) ∧ Below w1.heap.size w1 wr) (fun _ v8 _ => l.length - (intOf v8).toNat)
  case atStart => exact ⟨0, Nat.zero_le _, rfl, rfl, box_new _ link0, (by repeat (first | exact Below.refl _ _ | assumption | refine Below.drew ?_ | refine below_drewN ?_ _ | refine Below.alloc ?_ (by first | omega | (simp; done) | (simp; omega)) _ | refine Below.setCell ?_ (by first | omega | (simp; done) | (simp; omega)) _))⟩
  case round =>
    obtain ⟨k, hkl, rfl, rfl, hbox, hbw⟩ := hrel
    obtain ⟨wo, hwo⟩ : ∃ x, x = wr := ⟨_, rfl⟩
    subst hwo
    have HBOX := hid hbox
    have hsz := hbw.size
    have f0 := frozen_of_row wo _ 0 _ _ hbox
    have f1 := frozen_of_row wo _ 1 _ _ hbox
    have f2 := frozen_of_row wo _ 2 _ _ hbox
    have f3 := frozen_of_row wo _ 3 _ _ hbox
    have f4 := frozen_of_row wo _ 4 _ _ hbox
    have z0 := row_cells hbox 0
    have z1 := row_cells hbox 1
    have z2 := row_cells hbox 2
    have z3 := row_cells hbox 3
    have z4 := row_cells hbox 4
    simp at z0 z1 z2 z3 z4
    have hlo : w1.heap.size < wo.heap.size := cell_lt (p := ⟨w1.heap.size, 0, none⟩) z0
    clear hbox
    by_cases hlt : k < l.length
    · have HST := hid (look_step (HRL.out k hkl) l[k] key)
      rw [← playL_succ hlt] at HST
      obtain ⟨b, off, rfl, hB, k0, k1, k2, k3, k4, k5, k6, k7⟩ := (H.out.arr.below (hb1.trans (hbw.mono hz11))).act hlt
      clear k6 k7
      obtain ⟨a, ha⟩ : ∃ a, a = l[k] := ⟨_, rfl⟩
      rw [← ha] at k0 k1 k2 k3 k4 k5 HST
      clear ha
      obtain ⟨r, hr⟩ : ∃ r, r = lookL (playL (l.take k)) key := ⟨_, rfl⟩
      rw [← hr] at HST HBOX z0 z1 z2 z3 z4 ⊢
      clear hr
      by_cases hk : a.l.key = key
      · have hv : (a.l.key.toList == key.toList) = true := by rw [hk]; simp
        by_cases t0 : a.what = 0
        · have HS : Hid (lookL (playL (l.take (k + 1))) key = some a.l) := hid (by rw [HST.out, if_pos ⟨hk, t0⟩])
          rw [t0] at k0
          clear HST hk t0
          go_wp2_with fail
          go_roundw
          case rel => exact ⟨k + 1, by omega, by go_num, by rw [HS.out]; rfl, by rw [HS.out]; exact box_set a.l HBOX.out, below_set5 hbw (Nat.le_refl _) _ _ _ _ _⟩
          case measure => simp [intOf]; omega
        · by_cases t1 : a.what = 1
          · have HS : Hid (lookL (playL (l.take (k + 1))) key = none) := hid (by rw [HST.out, if_neg (fun h => t0 h.2), if_pos ⟨hk, t1⟩])
            rw [t1] at k0
            clear HST hk t0
            go_wp2_with fail
            go_roundw
            case rel => exact ⟨k + 1, by omega, by go_num, by rw [HS.out]; rfl, by rw [HS.out]; exact box_set link0 HBOX.out, below_set5 hbw (Nat.le_refl _) _ _ _ _ _⟩
            case measure => simp [intOf]; omega
          · have HS : Hid (lookL (playL (l.take (k + 1))) key = r) := hid (by rw [HST.out, if_neg (fun h => t0 h.2), if_neg (fun h => t1 h.2)])
            have n0 : (a.what == 0) = false := by simpa using t0
            have n1 : (a.what == 1) = false := by simpa using t1
            clear HST hk t0 t1
            go_wp2_with fail
            go_roundw
            case rel => exact ⟨k + 1, by omega, by go_num, by rw [HS.out], by rw [HS.out]; exact HBOX.out, hbw⟩
            case measure => simp [intOf]; omega
      · have hv : (a.l.key.toList == key.toList) = false := by rw [beq_eq_false_iff_ne]; exact fun e => hk (toList_inj e)
        have HS : Hid (lookL (playL (l.take (k + 1))) key = r) := hid (by rw [HST.out, if_neg (fun h => hk h.1), if_neg (fun h => hk h.1)])
        clear HST hk
        go_wp2_with fail
        go_roundw
        case rel => exact ⟨k + 1, by omega, by go_num, by rw [HS.out], by rw [HS.out]; exact HBOX.out, hbw⟩
        case measure => simp [intOf]; omega
    · have HK : Hid (playL (l.take k) = playL l) := hid (by rw [List.take_of_length_le (by omega)])
      rw [HK.out] at HBOX z0 z1 z2 z3 z4 ⊢
      rw [List.take_length] at HL
      obtain ⟨L, hL⟩ : ∃ L, L = playL l := ⟨_, rfl⟩
      rw [← hL] at HL HO1 HBOX z0 z1 z2 z3 z4 ⊢
      have HR := hid HL.out.1
      have hLl : L.length ≤ 120 := Nat.le_trans HL.out.2 HFEW.out.1
      have HLK := hid (look_has L key)
      obtain ⟨r, hr⟩ : ∃ r, r = lookL L key := ⟨_, rfl⟩
      have HRR := hid hr
      rw [← hr] at HBOX z0 z1 z2 z3 z4 HLK ⊢
      have HOO := hid (HO1.out.below hbw)
      clear hL HL HK hr
      have bwo : Below w.heap.size w wo := hb1.trans (hbw.mono hz11)
      have hzo := bwo.size
      go_wp2_with fail
      refine (all_any _ HOO.out (by rw [lv_zero]; omega)).mono ?_
      rintro e w2 ⟨A', c', rfl, hown, hb2⟩
      rw [lv_zero] at hown ⊢
      have HARR := hid ((hown.arr Link.enc_len))
      have HO2 := hid (HOO.out.below hb2)
      have hz2 := hb2.size
      have hln2 := hown.len
      have hmx2 := hown.max
      have bw2 : Below w.heap.size w w2 := bwo.trans (hb2.mono hzo)
      have HB2 := hid ((hb2.block _ hlo).trans HBOX.out)
      clear hown hb2 z0 z1 z2 z3 z4 f0 f1 f2 f3 f4
      go_wp2_with fail
      go_loopw [11, 12] (fun v11 v12 wr => ∃ k : Nat, k ≤ L.length ∧ v12 = .int .i64 k ∧ v11 = .bool (lookL (L.take k) key).isSome ∧ BoxL wr w2.heap.size ((lookL (L.take k) key).getD link0) ∧ Below w2.heap.size w2 wr) (fun _ v12 _ => L.length - (intOf v12).toNat)
      case atStart => exact ⟨0, Nat.zero_le _, rfl, rfl, box_new _ link0, (by repeat (first | exact Below.refl _ _ | assumption | refine Below.drew ?_ | refine below_drewN ?_ _ | refine Below.alloc ?_ (by first | omega | (simp; done) | (simp; omega)) _ | refine Below.setCell ?_ (by first | omega | (simp; done) | (simp; omega)) _))⟩
      case round =>
        obtain ⟨i, hil, rfl, rfl, hbox, hbx⟩ := hrel
        have HBX := hid hbox
        have hsx := hbx.size
        have z0 := row_cells hbox 0
        have z1 := row_cells hbox 1
        have z2 := row_cells hbox 2
        have z3 := row_cells hbox 3
        have z4 := row_cells hbox 4
        simp at z0 z1 z2 z3 z4
        have f0 := frozen_of_row wr _ 0 _ _ hbox
        have f1 := frozen_of_row wr _ 1 _ _ hbox
        have f2 := frozen_of_row wr _ 2 _ _ hbox
        have f3 := frozen_of_row wr _ 3 _ _ hbox
        have f4 := frozen_of_row wr _ 4 _ _ hbox
        have hlx : w2.heap.size < wr.heap.size := cell_lt (p := ⟨w2.heap.size, 0, none⟩) z0
        clear hbox
        by_cases hlt : i < L.length
        · have HT := hid (look_take HR.out hlt key)
          obtain ⟨b, off, rfl, hB, k0, k1, k2, k3, k4⟩ := (HARR.out.below hbx).link hlt
          obtain ⟨q, hq⟩ : ∃ q, q = lookL (L.take i) key := ⟨_, rfl⟩
          rw [← hq] at HT HBX z0 z1 z2 z3 z4 ⊢
          clear hq
          by_cases hk : L[i].key = key
          · have hv : (L[i].key.toList == key.toList) = true := by rw [hk]; simp
            have HS : Hid (lookL (L.take (i + 1)) key = some L[i]) := hid (by rw [HT.out, if_pos hk])
            clear HT hk
            go_wp2_with fail
            go_roundw
            case rel => exact ⟨i + 1, by omega, by go_num, by rw [HS.out]; rfl, by rw [HS.out]; exact box_set L[i] HBX.out, below_set5 hbx (Nat.le_refl _) _ _ _ _ _⟩
            case measure => simp [intOf]; omega
          · have hv : (L[i].key.toList == key.toList) = false := by rw [beq_eq_false_iff_ne]; exact fun e => hk (toList_inj e)
            have HS : Hid (lookL (L.take (i + 1)) key = q) := hid (by rw [HT.out, if_neg hk])
            clear HT hk
            go_wp2_with fail
            go_roundw
            case rel => exact ⟨i + 1, by omega, by go_num, by rw [HS.out], by rw [HS.out]; exact HBX.out, hbx⟩
            case measure => simp [intOf]; omega
        · have HK : Hid (lookL (L.take i) key = r) := hid (by rw [HRR.out, List.take_of_length_le (by omega)])
          rw [HK.out] at HBX z0 z1 z2 z3 z4 ⊢
          have hbw1 : w1.heap.size < w2.heap.size := by omega
          have HB3 := hid ((hbx.block _ hbw1).trans HB2.out)
          have y0 := row_cells HB3.out 0
          have y1 := row_cells HB3.out 1
          have y2 := row_cells HB3.out 2
          have y3 := row_cells HB3.out 3
          have y4 := row_cells HB3.out 4
          simp at y0 y1 y2 y3 y4
          have HO3 := hid ((HO2.out.below hbx).mono (G := fun j => w.heap.size ≤ j) (fun j hj => hj))
          have bw3 : Below w.heap.size w wr := bw2.trans (hbx.mono bw2.size)
          go_wp2_with fail
          refine (drop_any (F := fun j => w.heap.size ≤ j) key _ HO3.out (fun j hj => by have := bw3.size; omega) HR.out (by omega) (by omega)).mono ?_
          rintro e w4 ⟨rfl, ho4, hon4⟩
          rw [← HLK.out]
          have bw4 : Below w.heap.size w w4 := bw3.trans (hon4.below (fun j hj => hj) bw3.size)
          have HO4 := hid ho4
          have HZL := hid (dropL_len L key)
          clear ho4 hon4 y0 y1 y2 y3 y4 z0 z1 z2 z3 z4 f0 f1 f2 f3 f4
          go_wp2_with fail
          refine (drop_any (F := fun j => w.heap.size ≤ j) key _ HO4.out (fun j hj => by have := bw4.size; omega) (rise_drop HR.out key) (by have := HZL.out; omega) (by omega)).mono ?_
          rintro e w5 ⟨rfl, ho5, hon5⟩
          rw [has_drop]
          have bw5 : Below w.heap.size w w5 := bw4.trans (hon5.below (fun j hj => hj) bw4.size)
          clear ho5 hon5
          go_wp2_with fail
          refine (awake13 _).mono ?_
          rintro e w6 ⟨rfl, hb6⟩
          go_wp2
          go_ret
          exact ⟨rfl, bw5.trans (hb6.mono bw5.size)⟩
end Go.Proofs.Ythadifbbepcdiaa
