/- The statement OrderWalks: the walk. -/
import Derived.Test.YthadifbbepcdiaaOLevels
namespace Go.Proofs.Ythadifbbepcdiaa
open Go.RowKit

theorem right_none {l : List Link} (hr : Rise l) {i : Nat} (hi : i + 1 = l.length) : rightIn l (l[i]'(by omega)).key true = none := by
  rw [rightIn, List.find?_eq_none]
  intro x hx
  obtain ⟨j, hj, rfl⟩ := List.getElem_of_mem hx
  have : kl (l[i]'(by omega)).key l[j].key = false := by
    rcases (by omega : j = i ∨ j < i) with rfl | h
    · exact kl_irrefl _
    · exact kl_asymm (rise_lt hr (by omega) h)
  simp [this]
/-- where a walk stands that has met k links -/
def PosAt (l : List Link) (k : Nat) (pos : ByteArray) : Prop := ∀ i, (h : i + 1 = k) → (h' : i < l.length) → pos = l[i].key
theorem right_walk {l : List Link} (hr : Rise l) {k : Nat} (hk : k < l.length) {pos : ByteArray} (hp : PosAt l k pos) : rightIn l pos (decide (0 < k)) = some l[k] := by
  cases k with
  | zero => rw [show decide (0 < 0) = false from rfl, right_first, List.getElem?_eq_getElem hk]
  | succ k =>
    rw [hp k rfl (by omega), show decide (0 < k + 1) = true by simp]
    exact right_next hr hk
theorem right_walked {l : List Link} (hr : Rise l) {k : Nat} (hk : k = l.length) {pos : ByteArray} (hp : PosAt l k pos) : rightIn l pos (decide (0 < k)) = none := by
  cases k with
  | zero => rw [show decide (0 < 0) = false from rfl, right_first, List.getElem?_eq_none (by omega)]
  | succ k =>
    rw [hp k rfl (by omega), show decide (0 < k + 1) = true by simp]
    exact right_none hr hk
theorem pos_walk {l : List Link} (hr : Rise l) {k : Nat} (hk : k < l.length) {pos : ByteArray} (hp : PosAt l k pos) (h0 : 0 < k) : kl pos l[k].key = true := by
  rw [hp (k - 1) (by omega) (by omega)]
  exact rise_lt hr hk (by omega)
set_option maxHeartbeats 8000000 in
set_option maxRecDepth 100000 in
theorem orderWalks_any (l : List ActR) (A : Option Addr) (c : Nat) (w : World) (h : ActsIn w w.heap.size A c l) : Calls Try.prog 5 #[.slice A l.length c] w fun e w' => e = .returned (.bool true) ∧ Below w.heap.size w w' := by
  have H := hid h
  clear h
  go_enter Try.func5, Try.ntmps5
  go_wp2_with fail
  refine (large_any l A c _ H.out).mono ?_
  rintro e w1 ⟨b, rfl, rfl, hfew⟩
  cases b with
  | true =>
    clear hfew
    go_wp2_with fail
    refine (awake13 _).mono ?_
    rintro e w4 ⟨rfl, hb4⟩
    go_wp2
    go_ret
    exact ⟨rfl, hb4⟩
  | false =>
  have HFEW := hid (hfew rfl)
  clear hfew
  go_wp2_with fail
  refine (played_any l A c _ H.out HFEW.out).mono ?_
  rintro e w1 ⟨rfl, ho1, hb1⟩
  have HL := hid (playL_rise l l.length (Nat.le_refl _))
  rw [List.take_length] at HL
  obtain ⟨L, hL⟩ : ∃ L, L = playL l := ⟨_, rfl⟩
  rw [← hL] at HL ho1
  have HR := hid HL.out.1
  have hLl : L.length ≤ 120 := Nat.le_trans HL.out.2 HFEW.out.1
  have HO1 := hid ho1
  have hz1 := ho1.lt
  have hz11 := hb1.size
  clear hL HL ho1
  go_wp2_with fail
  have e0 := lv_zero L
  refine (all_any _ HO1.out (by rw [lv_zero]; omega)).mono ?_
  rintro e w2 ⟨A', c', rfl, hown, hb2⟩
  rw [lv_zero] at hown ⊢
  have HARR := hid ((hown.arr Link.enc_len))
  have HO2 := hid (HO1.out.below hb2)
  have hz2 := hb2.size
  have hln := hown.len
  have hmx := hown.max
  have bw2 : Below w.heap.size w w2 := hb1.trans (hb2.mono hz11)
  clear hown hb2 e0
  go_wp2_with fail
  go_loopw [5, 6, 7] (fun v5 v6 v7 wr => ∃ (k : Nat) (pos : ByteArray), k ≤ L.length ∧ v5 = .string pos ∧ v6 = .bool (decide (0 < k)) ∧ v7 = .int .i64 k ∧ Hid (PosAt L k pos) ∧ Below w2.heap.size w2 wr) (fun _ _ v7 _ => L.length - (intOf v7).toNat)
  case atStart => exact ⟨0, _, Nat.zero_le _, rfl, rfl, rfl, hid (fun i h => by omega), Below.refl _ _⟩
  case round =>
    obtain ⟨k, pos, hkl, rfl, rfl, rfl, hpos, hbw⟩ := hrel
    have hx0 := lv_zero L
    have hzw := hbw.size
    have hsz := hbw.size
    have HO := hid (HO2.out.below hbw)
    by_cases hlt : k < L.length
    · obtain ⟨b, off, rfl, hB, k0, k1, k2, k3, k4⟩ := (HARR.out.below hbw).link hlt
      have HRW := hid (right_walk HR.out hlt hpos.out)
      have HPW := hid (pos_walk HR.out hlt hpos.out)
      clear hx0
      go_wp2_with fail
      refine (right_at (k := 0) (by omega) 1 (by omega) pos _ _ HO.out (rise_lv HR.out 0) (by rw [lv_zero]; omega)).mono ?_
      rintro e wR ⟨rfl, hbR⟩
      rw [lv_zero, HRW.out, rightV_some]
      have hzR := hbR.size
      have hbr : b < wr.heap.size := by omega
      have q0 := (hbR.cell (p := ⟨b, off + k * 5, none⟩) hbr).trans k0
      have q1 := (hbR.cell (p := ⟨b, off + k * 5 + 1, none⟩) hbr).trans k1
      have q2 := (hbR.cell (p := ⟨b, off + k * 5 + 2, none⟩) hbr).trans k2
      have q3 := (hbR.cell (p := ⟨b, off + k * 5 + 3, none⟩) hbr).trans k3
      have q4 := (hbR.cell (p := ⟨b, off + k * 5 + 4, none⟩) hbr).trans k4
      have hbq : b < wR.heap.size := by omega
      have bwR := hbw.trans (hbR.mono hzw)
      clear hbR k0 k1 k2 k3 k4
      by_cases hk0 : 0 < k
      · have hd : decide (0 < k) = true := by simpa using hk0
        have hbl : Op.bytesLess L[k].key.toList pos.toList = false := kl_asymm (HPW.out hk0)
        have hbe : (L[k].key.toList == pos.toList) = false := by rw [beq_eq_false_iff_ne]; exact fun e => kl_ne (HPW.out hk0) (toList_inj e).symm
        rw [hd]
        go_wp2_with fail
        go_quiet (fail)
        go_wp2
        refine ⟨⟨k + 1, L[k].key, by omega, rfl, by simp, by go_num, hid fun i hi hil => ?_, below_drewN (by repeat (first | exact Below.refl _ _ | assumption | refine Below.drew ?_ | refine below_drewN ?_ _ | refine Below.alloc ?_ (by first | omega | (simp; done) | (simp; omega)) _ | refine Below.setCell ?_ (by first | omega | (simp; done) | (simp; omega)) _)) _⟩, by simp [intOf]; omega⟩
        obtain rfl : i = k := by omega
        rfl
      · have hd : decide (0 < k) = false := by simpa using hk0
        rw [hd]
        go_wp2_with fail
        go_quiet (fail)
        go_wp2
        refine ⟨⟨k + 1, L[k].key, by omega, rfl, by simp, by go_num, hid fun i hi hil => ?_, below_drewN (by repeat (first | exact Below.refl _ _ | assumption | refine Below.drew ?_ | refine below_drewN ?_ _ | refine Below.alloc ?_ (by first | omega | (simp; done) | (simp; omega)) _ | refine Below.setCell ?_ (by first | omega | (simp; done) | (simp; omega)) _)) _⟩, by simp [intOf]; omega⟩
        obtain rfl : i = k := by omega
        rfl
    · have hkL : k = L.length := by omega
      have HRW := hid (right_walked HR.out hkL hpos.out)
      have HKL := hid hkL
      clear hx0 hkL
      go_wp2_with fail
      refine (right_at (k := 0) (by omega) 1 (by omega) pos _ _ HO.out (rise_lv HR.out 0) (by rw [lv_zero]; omega)).mono ?_
      rintro e wR ⟨rfl, hbR⟩
      rw [lv_zero, HRW.out, rightV_none]
      have stR : Below wr.heap.size wr wR := hbR
      have hzR := stR.size
      have HOR := hid (HO.out.below stR)
      have bwR := bw2.trans ((hbw.trans (stR.mono hsz)).mono bw2.size)
      clear hbR
      by_cases hk0 : 0 < k
      · have hd : decide (0 < k) = true := by simpa using hk0
        have hl0 : 0 < L.length := by have := HKL.out; omega
        rw [hd]
        go_wp2_with fail
        refine (len_any (lv := atLv L) (ob := w.heap.size) _ (HOR.out.below (by repeat (first | exact Below.refl _ _ | assumption | refine Below.drew ?_ | refine below_drewN ?_ _ | refine Below.alloc ?_ (by first | omega | (simp; done) | (simp; omega)) _ | refine Below.setCell ?_ (by first | omega | (simp; done) | (simp; omega)) _)))).mono ?_
        rintro e w4 ⟨rfl, rfl⟩
        rw [lv_zero]
        go_wp2_with fail
        refine (awake13 _).mono ?_
        rintro e w5 ⟨rfl, hb5⟩
        go_wp2
        go_ret
        exact ⟨rfl, Below.trans (b := _) (show Below w.heap.size w (wR.alloc _) from bwR.alloc bwR.size _) (hb5.mono (by simp; have := bwR.size; omega))⟩
      · have hd : decide (0 < k) = false := by simpa using hk0
        have hl0 : ¬ (0 < L.length) := by have := HKL.out; omega
        rw [hd]
        go_wp2_with fail
        refine (len_any (lv := atLv L) (ob := w.heap.size) _ (HOR.out.below (by repeat (first | exact Below.refl _ _ | assumption | refine Below.drew ?_ | refine below_drewN ?_ _ | refine Below.alloc ?_ (by first | omega | (simp; done) | (simp; omega)) _ | refine Below.setCell ?_ (by first | omega | (simp; done) | (simp; omega)) _)))).mono ?_
        rintro e w4 ⟨rfl, rfl⟩
        rw [lv_zero]
        go_wp2_with fail
        refine (awake13 _).mono ?_
        rintro e w5 ⟨rfl, hb5⟩
        go_wp2
        go_ret
        exact ⟨rfl, Below.trans (b := _) (show Below w.heap.size w (wR.alloc _) from bwR.alloc bwR.size _) (hb5.mono (by simp; have := bwR.size; omega))⟩
end Go.Proofs.Ythadifbbepcdiaa
