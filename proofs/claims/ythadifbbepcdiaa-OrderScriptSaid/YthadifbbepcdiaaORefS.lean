/- The reference's sum of a text and level of a key. -/
import Derived.Test.YthadifbbepcdiaaOSum
namespace Go.Proofs.Ythadifbbepcdiaa
open Go.RowKit
set_option maxHeartbeats 1000000 in
theorem refstep_any (c x : Nat) (hc : c < 4294967296) (hx : x < 256) (w : World) : Calls Try.prog 40 #[.int .u32 c, .int .u8 x] w fun e w' => e = .returned (.int .u32 (stp c x : Nat)) ∧ w = w' := by
  have hx2 : IntKind.u32.wrap (x : Int) = x := by rw [IntKind.wrap_u32']; omega
  have hcx := u32_xor_nat c x hc (by omega)
  have hlt := xor_lt hc (show x < 4294967296 by omega)
  obtain ⟨n, hn⟩ : ∃ n, n = c ^^^ x := ⟨_, rfl⟩
  rw [stp, ← hn]
  rw [← hn] at hcx hlt
  clear hn
  go_enter Try.func40, Try.ntmps40
  go_wp2_with fail
  go_loop [0, 5] (fun v0 v5 => ∃ k : Nat, k ≤ 8 ∧ v5 = .int .i64 k ∧ v0 = .int .u32 (stpN k n : Nat)) (fun _ v5 => 8 - (intOf v5).toNat)
  case atStart => exact ⟨0, Nat.zero_le _, rfl, rfl⟩
  case round =>
    obtain ⟨k, hk, rfl, rfl⟩ := hrel
    by_cases h8 : k < 8
    · have hd := stpN_lt hlt k
      have hs : stpN (k + 1) n = stp1 (stpN k n) := rfl
      obtain ⟨d, hdd⟩ : ∃ d, d = stpN k n := ⟨_, rfl⟩
      rw [← hdd] at hd hs ⊢
      clear hdd
      have e0 := and_one d hd
      by_cases h2 : d % 2 = 0
      · have e1 : ((d % 2 : Nat) : Int) = 0 := by omega
        rw [e1] at e0
        clear e1
        go_wp2_with fail
        exact ⟨⟨k + 1, by omega, by go_num, by rw [hs, stp1, if_pos h2]; go_num⟩, by simp [intOf]; omega⟩
      · have e1 : ((d % 2 : Nat) : Int) = 1 := by omega
        have e2 : bits .xor .u32 ((d : Int) / 2) 3988292384 = ((d / 2 ^^^ 3988292384 : Nat) : Int) := u32_xor_nat (d / 2) 3988292384 (by omega) (by omega)
        rw [e1] at e0
        clear e1
        go_wp2_with fail
        exact ⟨⟨k + 1, by omega, by go_num, by rw [hs, stp1, if_neg h2]⟩, by simp [intOf]; omega⟩
    · obtain rfl : k = 8 := by omega
      go_wp2
      go_ret
      exact ⟨rfl, rfl⟩
set_option maxHeartbeats 1000000 in
theorem reftext_any (s : ByteArray) (hn : s.size ≤ 1000000) (w : World) : Calls Try.prog 36 #[.string s] w fun e w' => e = .returned (.int .u32 (sumOf s : Nat)) ∧ w = w' := by
  have hx : bits .xor .u32 ((sumTo s s.size : Nat) : Int) 4294967295 = ((sumOf s : Nat) : Int) := u32_xor_nat (sumTo s s.size) 4294967295 (sumTo_lt s _) (by omega)
  go_enter Try.func36, Try.ntmps36
  go_wp2_with fail
  go_loop [3, 4] (fun v3 v4 => ∃ k : Nat, k ≤ s.size ∧ v4 = .int .i64 k ∧ v3 = .int .u32 (sumTo s k : Nat)) (fun _ v4 => s.size - (intOf v4).toNat)
  case atStart => exact ⟨0, Nat.zero_le _, rfl, by rw [sumTo_zero]⟩
  case round =>
    obtain ⟨k, hk, rfl, rfl⟩ := hrel
    by_cases hlt : k < s.size
    · have hd := sumTo_lt s k
      have hs := sumTo_succ hlt
      go_wp2_with (go_at_call 40; refine (refstep_any _ _ hd (UInt8.toNat_lt _) _).mono ?_; rintro e w' ⟨rfl, rfl⟩)
      exact ⟨⟨k + 1, by omega, by go_num, by rw [hs]; rfl⟩, by simp [intOf]; omega⟩
    · obtain rfl : k = s.size := by omega
      go_wp2
      go_ret
      exact ⟨rfl, rfl⟩
set_option maxHeartbeats 1000000 in
theorem reflevel_any (s : ByteArray) (hn : s.size ≤ 1000000) (w : World) : Calls Try.prog 28 #[.string s] w fun e w' => e = .returned (.int .i64 (lvlOf s : Nat)) ∧ w = w' := by
  have hlt := sumOf_lt s
  rw [lvlOf]
  obtain ⟨c, hc⟩ : ∃ c, c = sumOf s := ⟨_, rfl⟩
  rw [← hc] at hlt ⊢
  have hcall : ∀ w, Calls Try.prog 36 #[.string s] w fun e w' => e = .returned (.int .u32 (c : Nat)) ∧ w = w' := fun w => by rw [hc]; exact reftext_any s hn w
  clear hc
  go_enter Try.func28, Try.ntmps28
  go_wp2_with (go_at_call 36; refine (hcall _).mono ?_; rintro e w' ⟨rfl, rfl⟩)
  go_loop [3, 4] (fun v3 v4 => ∃ k : Nat, k ≤ 3 ∧ v4 = .int .i64 (k + 1) ∧ (∃ d : Nat, v3 = .int .u32 d ∧ d = c * 2 ^ k % 4294967296) ∧ preB c k) (fun _ v4 => 5 - (intOf v4).toNat)
  case atStart => exact ⟨0, Nat.zero_le _, rfl, ⟨c, rfl, by omega⟩, by simp [preB]⟩
  case round =>
    obtain ⟨k, hk, rfl, ⟨d, rfl, hd⟩, hpre⟩ := hrel
    obtain ⟨d2, hd2⟩ : ∃ d2, d2 = d * 2 % 4294967296 := ⟨_, rfl⟩
    have hw : IntKind.u32.wrap ((d : Int) * 2) = (d2 : Int) := by rw [IntKind.wrap_u32']; omega
    have HD2 := hid hd2
    clear hd2
    rcases (by omega : k = 0 ∨ k = 1 ∨ k = 2 ∨ k = 3) with rfl | rfl | rfl | rfl
    · by_cases h0 : c / 2147483648 % 2 = 0
      · have z : ¬ ((2147483648 : Int) ≤ d) := by omega
        have zz := lvlC_0 h0
        clear hpre hd
        go_wp2
        go_ret
        exact ⟨rfl, rfl⟩
      · have z : ((2147483648 : Int) ≤ d) := by omega
        clear hpre
        have hd' := hid hd
        clear hd
        go_wp2_with fail
        exact ⟨⟨1, by omega, by go_num, ⟨d2, rfl, by rw [HD2.out, hd'.out]; omega⟩, ⟨fun _ => by omega, by omega, by omega⟩⟩, by first | (simp [intOf]; done) | (simp [intOf]; omega)⟩
    · have p1 := hpre.1 (by omega)
      by_cases h0 : c / 1073741824 % 2 = 0
      · have z : ¬ ((2147483648 : Int) ≤ d) := by omega
        have zz := lvlC_1 hpre h0
        clear hpre hd
        go_wp2
        go_ret
        exact ⟨rfl, rfl⟩
      · have z : ((2147483648 : Int) ≤ d) := by omega
        clear hpre
        have hd' := hid hd
        clear hd
        go_wp2_with fail
        exact ⟨⟨2, by omega, by go_num, ⟨d2, rfl, by rw [HD2.out, hd'.out]; omega⟩, ⟨fun _ => by omega, fun _ => by omega, by omega⟩⟩, by first | (simp [intOf]; done) | (simp [intOf]; omega)⟩
    · have p1 := hpre.1 (by omega)
      have p2 := hpre.2.1 (by omega)
      by_cases h0 : c / 536870912 % 2 = 0
      · have z : ¬ ((2147483648 : Int) ≤ d) := by omega
        have zz := lvlC_2 hpre h0
        clear hpre hd
        go_wp2
        go_ret
        exact ⟨rfl, rfl⟩
      · have z : ((2147483648 : Int) ≤ d) := by omega
        clear hpre
        have hd' := hid hd
        clear hd
        go_wp2_with fail
        exact ⟨⟨3, by omega, by go_num, ⟨d2, rfl, by rw [HD2.out, hd'.out]; omega⟩, ⟨fun _ => by omega, fun _ => by omega, fun _ => by omega⟩⟩, by first | (simp [intOf]; done) | (simp [intOf]; omega)⟩
    · have zz := lvlC_3 hpre
      clear hpre hd
      go_wp2
      go_ret
      exact ⟨rfl, rfl⟩
end Go.Proofs.Ythadifbbepcdiaa
