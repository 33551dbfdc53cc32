/- The statements AuditNumbers and AuditRises: the walks. -/
import Derived.Test.YthpegmeebhkhbaaAud1
namespace Go.Proofs.Ythpegmeebhkhbaa
open Go.RowKit

theorem Taken.enc_len (x : Taken) : x.enc.length = 2 := rfl
set_option maxHeartbeats 1000000 in
theorem awake26 (w : World) : Calls Try.prog 21 #[] w fun e w' => e = .returned (.bool true) ∧ Below w.heap.size w w' := by
  have o1 : overlapB [⟨2, 1⟩, ⟨3, 0⟩] = true := by decide +kernel
  have o2 : overlapB [⟨2, 0⟩, ⟨3, 0⟩] = false := by decide +kernel
  have o3 : meas 0 10 0 0 = 1936 := by decide +kernel
  have o4 : tr 0 = 232 := by decide +kernel
  go_enter Try.func21, Try.ntmps21
  go_wp2_with fail
  refine (overlap_any [⟨2, 1⟩, ⟨3, 0⟩] _ 2 _ ((Arr.lit Taken.enc_len w _ _ _ rfl).more (by simp)) (by simp) (by simp)).mono ?_
  rintro e w1 ⟨rfl, hb1⟩
  have hz1 := new_size hb1
  rw [o1]
  go_wp2_with fail
  refine (overlap_any [⟨2, 0⟩, ⟨3, 0⟩] _ 2 _ ((Arr.lit Taken.enc_len w1 _ _ _ rfl).more (by simp)) (by simp) (by simp)).mono ?_
  rintro e w2 ⟨rfl, hb2⟩
  rw [o2]
  go_wp2_with fail
  refine (try_a' 0 _).mono ?_
  rintro e w3 ⟨rfl, rfl⟩
  rw [o4]
  go_wp2_with fail
  refine (meas_a 0 10 0 0 _).mono ?_
  rintro e w3 ⟨rfl, rfl⟩
  rw [o3]
  go_wp2_with fail
  go_ret
  have r1 : Below w.heap.size w w1 := ((Below.refl _ w).alloc (Nat.le_refl _) _).trans (hb1.mono (by simp))
  have r2 : Below w1.heap.size w1 w2 := ((Below.refl _ w1).alloc (Nat.le_refl _) _).trans (hb2.mono (by simp))
  exact ⟨rfl, r1.trans (r2.mono (by omega))⟩

set_option maxHeartbeats 1000000 in
theorem numbers_walk (a b c d : Int) (w : World) : Calls Try.prog 3 #[.int .i64 a, .int .i64 b, .int .i64 c, .int .i64 d] w fun e w' => e = .returned (.bool true) ∧ Below w.heap.size w w' := by
  have e1 : (tr c == tr c) = true := by simp
  have e2 : (meas a b c d == meas a b c d) = true := by simp
  go_enter Try.func3, Try.ntmps3
  go_wp2_with (first | (go_at_call 17; refine (try_a' _ _).mono ?_; rintro e w' ⟨rfl, rfl⟩) | (go_at_call 18; refine (try_r' _ _).mono ?_; rintro e w' ⟨rfl, rfl⟩) | (go_at_call 19; refine (meas_a _ _ _ _ _).mono ?_; rintro e w' ⟨rfl, rfl⟩) | (go_at_call 20; refine (meas_r _ _ _ _ _).mono ?_; rintro e w' ⟨rfl, rfl⟩) | (go_at_call 21; refine (awake26 _).mono ?_; rintro e w' ⟨rfl, hb⟩))
  go_ret
  exact ⟨rfl, hb⟩
theorem mul_up {a b c d : Int} (h0 : 0 ≤ a) (h1 : a ≤ b) (h2 : 0 ≤ c) (h3 : c ≤ d) : a * c ≤ b * d := (mul_hi h0 h1 h2 h3).2
theorem wi_mono {a b : Int} (h : a ≤ b) : wi a ≤ wi b := by unfold wi; omega
theorem tr_mono {a b : Int} (h : a ≤ b) : tr a ≤ tr b := by unfold tr; omega
theorem meas_mono {a b c d a' b' c' d' : Int} (h1 : a ≤ a') (h2 : b ≤ b') (h3 : c ≤ c') (h4 : d ≤ d') : meas a b c d ≤ meas a' b' c' d' := by
  have := wi_mono h1; have := wi_mono h2; have := tr_mono (wi_mono h3); have := wi_mono h4
  have := wi_lo d; have := wi_lo a; have := wi_lo b; have := tr_lo (wi c)
  have hp : (2 * wi d + 2) * 2 * (wi a + 2 * wi b + 64 + tr (wi c)) ≤ (2 * wi d' + 2) * 2 * (wi a' + 2 * wi b' + 64 + tr (wi c')) := mul_up (by omega) (by omega) (by omega) (by omega)
  unfold meas
  omega
theorem meas_pos (a b c d : Int) : 0 < meas a b c d := by
  have h := meas_bd a b c d
  have := wi_lo a; have := wi_lo b
  unfold meas
  omega
set_option maxHeartbeats 2000000 in
theorem rises_walk (a b c d m : Int) (w : World) : Calls Try.prog 4 #[.int .i64 a, .int .i64 b, .int .i64 c, .int .i64 d, .int .i64 m] w fun e w' => e = .returned (.bool true) ∧ Below w.heap.size w w' := by
  have l1 := low_lo a 1048576 (by omega); have l2 := low_lo b 1048576 (by omega); have l3 := low_lo c 1048576 (by omega); have l4 := low_lo d 1048576 (by omega); have l5 := low_lo m 1000 (by omega)
  have u1 := low_hi a 1048576 (by omega); have u2 := low_hi b 1048576 (by omega); have u3 := low_hi c 1048576 (by omega); have u4 := low_hi d 1048576 (by omega); have u5 := low_hi m 1000 (by omega)
  generalize ha : low a 1048576 = A at *
  generalize hb : low b 1048576 = B at *
  generalize hc : low c 1048576 = C at *
  generalize hd : low d 1048576 = D at *
  generalize hm : low m 1000 = M at *
  have la := fun w => (low_any a 1048576 (by omega) (by omega) w)
  have lb := fun w => (low_any b 1048576 (by omega) (by omega) w)
  have lc := fun w => (low_any c 1048576 (by omega) (by omega) w)
  have ld := fun w => (low_any d 1048576 (by omega) (by omega) w)
  have lm := fun w => (low_any m 1000 (by omega) (by omega) w)
  rw [ha] at la; rw [hb] at lb; rw [hc] at lc; rw [hd] at ld; rw [hm] at lm
  have Ha := hid la; have Hb := hid lb; have Hc := hid lc; have Hd := hid ld; have Hm := hid lm
  clear la lb lc ld lm ha hb hc hd hm
  have t0 : (0 : Int) < meas A B C D := meas_pos _ _ _ _
  have t1 : meas A B C D ≤ meas (A + M) B C D := meas_mono (by omega) (by omega) (by omega) (by omega)
  have t2 : meas A B C D ≤ meas A (B + M) C D := meas_mono (by omega) (by omega) (by omega) (by omega)
  have t3 : meas A B C D ≤ meas A B (C + M) D := meas_mono (by omega) (by omega) (by omega) (by omega)
  have t4 : meas A B C D ≤ meas A B C (D + M) := meas_mono (by omega) (by omega) (by omega) (by omega)
  have t5 : tr C ≤ tr (C + M) := tr_mono (by omega)
  go_enter Try.func4, Try.ntmps4
  go_wp2_with (first | (go_at_call 22; (first | (with_reducible refine (Ha.out _).mono ?_) | (with_reducible refine (Hb.out _).mono ?_) | (with_reducible refine (Hc.out _).mono ?_) | (with_reducible refine (Hd.out _).mono ?_) | (with_reducible refine (Hm.out _).mono ?_)); rintro e w' ⟨rfl, rfl⟩) | (go_at_call 17; refine (try_a' _ _).mono ?_; rintro e w' ⟨rfl, rfl⟩) | (go_at_call 19; refine (meas_a _ _ _ _ _).mono ?_; rintro e w' ⟨rfl, rfl⟩) | (go_at_call 21; refine (awake26 _).mono ?_; rintro e w' ⟨rfl, hb⟩))
  go_ret
  exact ⟨rfl, hb⟩
end Go.Proofs.Ythpegmeebhkhbaa
