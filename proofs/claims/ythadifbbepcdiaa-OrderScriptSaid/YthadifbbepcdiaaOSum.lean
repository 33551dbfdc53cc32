/- Sums of texts and levels of keys: the program's and the reference's are the same numbers. -/
import Derived.Test.YthadifbbepcdiaaOKey
import Derived.Laws.BitsAllLaws
import Derived.WalkMore
namespace Go.Proofs.Ythadifbbepcdiaa
open Go.RowKit

def stp1 (c : Nat) : Nat := if c % 2 = 0 then c / 2 else (c / 2) ^^^ 3988292384
def stpN : Nat → Nat → Nat
  | 0, c => c
  | k + 1, c => stp1 (stpN k c)
def stp (c x : Nat) : Nat := stpN 8 (c ^^^ x)
theorem xor_lt {a b : Nat} (h : a < 4294967296) (k : b < 4294967296) : a ^^^ b < 4294967296 := by
  have := Nat.xor_lt_two_pow (n := 32) (by omega : a < 2 ^ 32) (by omega : b < 2 ^ 32)
  omega
theorem stp1_lt {c : Nat} (h : c < 4294967296) : stp1 c < 4294967296 := by
  unfold stp1
  split
  · omega
  · exact xor_lt (by omega) (by omega)
theorem stpN_lt {c : Nat} (h : c < 4294967296) : ∀ k, stpN k c < 4294967296
  | 0 => h
  | k + 1 => stp1_lt (stpN_lt h k)
theorem stp_lt {c x : Nat} (h : c < 4294967296) (k : x < 256) : stp c x < 4294967296 := stpN_lt (xor_lt h (by omega)) 8
set_option maxHeartbeats 1000000 in
theorem step_any (c x : Nat) (hc : c < 4294967296) (hx : x < 256) (w : World) : Calls Try.prog 38 #[.int .u32 c, .int .u8 x] w fun e w' => e = .returned (.int .u32 (stp c x : Nat)) ∧ w = w' := by
  have hx2 : IntKind.u32.wrap (x : Int) = x := by rw [IntKind.wrap_u32']; omega
  have hcx := u32_xor_nat c x hc (by omega)
  have hlt := xor_lt hc (show x < 4294967296 by omega)
  obtain ⟨n, hn⟩ : ∃ n, n = c ^^^ x := ⟨_, rfl⟩
  rw [stp, ← hn]
  rw [← hn] at hcx hlt
  clear hn
  go_enter Try.func38, Try.ntmps38
  go_wp2
  go_step3
  go_wp2
  go_step3
  go_wp2
  go_loop [0, 5] (fun v0 v5 => ∃ k : Nat, k ≤ 8 ∧ v5 = .int .i64 k ∧ v0 = .int .u32 (stpN k n : Nat)) (fun _ v5 => 8 - (intOf v5).toNat)
  case atStart => exact ⟨0, Nat.zero_le _, rfl, rfl⟩
  case round =>
    obtain ⟨k, hk, rfl, rfl⟩ := hrel
    by_cases h8 : k < 8
    · have hd := stpN_lt hlt k
      have hs : stpN (k + 1) n = stp1 (stpN k n) := rfl
      obtain ⟨d, hdd⟩ : ∃ d, d = stpN k n := ⟨_, rfl⟩
      rw [← hdd] at hd hs ⊢
      clear hdd
      by_cases h2 : d % 2 = 0
      · have e1 : (d : Int) % 2 = 0 := by omega
        go_wp2_with fail
        exact ⟨⟨k + 1, by omega, by go_num, by rw [hs, stp1, if_pos h2]; go_num⟩, by simp [intOf]; omega⟩
      · have e1 : (d : Int) % 2 = 1 := by omega
        have e2 : bits .xor .u32 ((d : Int) / 2) 3988292384 = ((d / 2 ^^^ 3988292384 : Nat) : Int) := u32_xor_nat (d / 2) 3988292384 (by omega) (by omega)
        go_wp2_with fail
        exact ⟨⟨k + 1, by omega, by go_num, by rw [hs, stp1, if_neg h2]⟩, by simp [intOf]; omega⟩
    · obtain rfl : k = 8 := by omega
      go_wp2
      go_ret
      exact ⟨rfl, rfl⟩

def bytesOf (s : ByteArray) : List UInt8 := s.data.toList
def sumTo (s : ByteArray) (k : Nat) : Nat := ((bytesOf s).take k).foldl (fun c x => stp c x.toNat) 4294967295
def sumOf (s : ByteArray) : Nat := sumTo s s.size ^^^ 4294967295
theorem bytesOf_len (s : ByteArray) : (bytesOf s).length = s.size := Array.length_toList
theorem sumTo_succ {s : ByteArray} {k : Nat} (h : k < s.size) : sumTo s (k + 1) = stp (sumTo s k) (s.get k h).toNat := by
  have hb : k < (bytesOf s).length := by rw [bytesOf_len]; exact h
  rw [sumTo, List.take_succ_eq_append_getElem hb, List.foldl_append]
  rfl
theorem sumTo_zero (s : ByteArray) : ((sumTo s 0 : Nat) : Int) = 4294967295 := by simp [sumTo]
theorem sumTo_lt (s : ByteArray) : ∀ k, sumTo s k < 4294967296
  | 0 => by simp [sumTo]
  | k + 1 => by
    by_cases h : k < s.size
    · rw [sumTo_succ h]
      exact stp_lt (sumTo_lt s k) (UInt8.toNat_lt _)
    · have e : (bytesOf s).take (k + 1) = (bytesOf s).take k := by
        rw [List.take_of_length_le (by rw [bytesOf_len]; omega), List.take_of_length_le (by rw [bytesOf_len]; omega)]
      rw [sumTo, e]
      exact sumTo_lt s k
theorem sumOf_lt (s : ByteArray) : sumOf s < 4294967296 := xor_lt (sumTo_lt s _) (by omega)
set_option maxHeartbeats 1000000 in
theorem text_any (s : ByteArray) (hn : s.size ≤ 1000000) (w : World) : Calls Try.prog 33 #[.string s] w fun e w' => e = .returned (.int .u32 (sumOf s : Nat)) ∧ w = w' := by
  have hx : bits .xor .u32 ((sumTo s s.size : Nat) : Int) 4294967295 = ((sumOf s : Nat) : Int) := u32_xor_nat (sumTo s s.size) 4294967295 (sumTo_lt s _) (by omega)
  go_enter Try.func33, Try.ntmps33
  go_wp2_with fail
  go_loop [3, 7] (fun v3 v7 => ∃ k : Nat, k ≤ s.size ∧ v7 = .int .i64 k ∧ v3 = .int .u32 (sumTo s k : Nat)) (fun _ v7 => s.size - (intOf v7).toNat)
  case atStart => exact ⟨0, Nat.zero_le _, rfl, by rw [sumTo_zero]⟩
  case round =>
    obtain ⟨k, hk, rfl, rfl⟩ := hrel
    by_cases hlt : k < s.size
    · have hd := sumTo_lt s k
      have hs := sumTo_succ hlt
      go_wp2_with (go_at_call 38; refine (step_any _ _ hd (UInt8.toNat_lt _) _).mono ?_; rintro e w' ⟨rfl, rfl⟩)
      exact ⟨⟨k + 1, by omega, by go_num, by rw [hs]; rfl⟩, by simp [intOf]; omega⟩
    · obtain rfl : k = s.size := by omega
      go_wp2
      go_ret
      exact ⟨rfl, rfl⟩

/-- how many levels have a key whose sum is c -/
def lvlC (c : Nat) : Nat := if c / 2147483648 % 2 = 0 then 1 else if c / 1073741824 % 2 = 0 then 2 else if c / 536870912 % 2 = 0 then 3 else 4
def lvlOf (s : ByteArray) : Nat := lvlC (sumOf s)
theorem lvlC_pos (c : Nat) : 1 ≤ lvlC c ∧ lvlC c ≤ 4 := by unfold lvlC; constructor <;> (repeat' split) <;> omega
theorem lvlOf_pos (s : ByteArray) : 1 ≤ lvlOf s ∧ lvlOf s ≤ 4 := lvlC_pos _
/-- the first k bits are set -/
def preB (c k : Nat) : Prop := (1 ≤ k → c / 2147483648 % 2 = 1) ∧ (2 ≤ k → c / 1073741824 % 2 = 1) ∧ (3 ≤ k → c / 536870912 % 2 = 1)
theorem lvlC_0 {c : Nat} (h : c / 2147483648 % 2 = 0) : lvlC c = 1 := by simp [lvlC, h]
theorem lvlC_1 {c : Nat} (h : preB c 1) (h1 : c / 1073741824 % 2 = 0) : lvlC c = 2 := by have := h.1 (by omega); simp [lvlC, h1, this]
theorem lvlC_2 {c : Nat} (h : preB c 2) (h1 : c / 536870912 % 2 = 0) : lvlC c = 3 := by have := h.1 (by omega); have := h.2.1 (by omega); simp [lvlC, *]
theorem lvlC_3 {c : Nat} (h : preB c 3) : lvlC c = 4 := by have := h.1 (by omega); have := h.2.1 (by omega); have := h.2.2 (by omega); simp [lvlC, *]
theorem and_one (c : Nat) (h : c < 4294967296) : bits .and .u32 (c : Int) 1 = ((c % 2 : Nat) : Int) := by
  have := u32_and_nat c 1 h (by omega)
  rwa [Nat.and_one_is_mod] at this
theorem one_one {m k : Nat} (h : m = k) : (m : Int) = k := by rw [h]
set_option maxHeartbeats 1000000 in
theorem level_any (s : ByteArray) (hn : s.size ≤ 1000000) (w : World) : Calls Try.prog 23 #[.string s] w fun e w' => e = .returned (.int .i64 (lvlOf s : Nat)) ∧ w = w' := by
  have hlt := sumOf_lt s
  rw [lvlOf]
  obtain ⟨c, hc⟩ : ∃ c, c = sumOf s := ⟨_, rfl⟩
  rw [← hc] at hlt ⊢
  have b0 := and_one (c / 2147483648) (by omega)
  have b1 := and_one (c / 1073741824) (by omega)
  have b2 := and_one (c / 536870912) (by omega)
  simp only [Int.natCast_ediv, Int.cast_ofNat_Int] at b0 b1 b2
  have hcall : ∀ w, Calls Try.prog 33 #[.string s] w fun e w' => e = .returned (.int .u32 (c : Nat)) ∧ w = w' := fun w => by rw [hc]; exact text_any s hn w
  clear hc
  go_enter Try.func23, Try.ntmps23
  go_wp2_with (go_at_call 33; refine (hcall _).mono ?_; rintro e w' ⟨rfl, rfl⟩)
  go_loop [4, 8] (fun v4 v8 => ∃ k : Nat, k ≤ 3 ∧ v8 = .int .i64 k ∧ v4 = .int .i64 (k + 1) ∧ preB c k) (fun _ v8 => 4 - (intOf v8).toNat)
  case atStart => exact ⟨0, Nat.zero_le _, rfl, rfl, by simp [preB]⟩
  case round =>
    obtain ⟨k, hk, rfl, rfl, hpre⟩ := hrel
    rcases (by omega : k = 0 ∨ k = 1 ∨ k = 2 ∨ k = 3) with rfl | rfl | rfl | rfl
    · by_cases h0 : c / 2147483648 % 2 = 0
      · have z : ((c / 2147483648 % 2 : Nat) : Int) = 0 := by omega
        have zz := lvlC_0 h0
        rw [z] at b0
        clear b1 b2 z
        go_wp2
        go_ret
        exact ⟨rfl, rfl⟩
      · have z : ((c / 2147483648 % 2 : Nat) : Int) = 1 := by omega
        rw [z] at b0
        clear b1 b2 z
        go_wp2_with fail
        exact ⟨⟨1, by omega, by go_num, by go_num, ⟨fun _ => by omega, by omega, by omega⟩⟩, by first | (simp [intOf]; done) | (simp [intOf]; omega)⟩
    · have p1 := hpre.1 (by omega)
      by_cases h0 : c / 1073741824 % 2 = 0
      · have z : ((c / 1073741824 % 2 : Nat) : Int) = 0 := by omega
        have zz := lvlC_1 hpre h0
        rw [z] at b1
        clear b0 b2 z hpre
        go_wp2
        go_ret
        exact ⟨rfl, rfl⟩
      · have z : ((c / 1073741824 % 2 : Nat) : Int) = 1 := by omega
        rw [z] at b1
        clear b0 b2 z hpre
        go_wp2_with fail
        exact ⟨⟨2, by omega, by go_num, by go_num, ⟨fun _ => by omega, fun _ => by omega, by omega⟩⟩, by first | (simp [intOf]; done) | (simp [intOf]; omega)⟩
    · have p1 := hpre.1 (by omega)
      have p2 := hpre.2.1 (by omega)
      by_cases h0 : c / 536870912 % 2 = 0
      · have z : ((c / 536870912 % 2 : Nat) : Int) = 0 := by omega
        have zz := lvlC_2 hpre h0
        rw [z] at b2
        clear b0 b1 z hpre
        go_wp2
        go_ret
        exact ⟨rfl, rfl⟩
      · have z : ((c / 536870912 % 2 : Nat) : Int) = 1 := by omega
        rw [z] at b2
        clear b0 b1 z hpre
        go_wp2_with fail
        exact ⟨⟨3, by omega, by go_num, by go_num, ⟨fun _ => by omega, fun _ => by omega, fun _ => by omega⟩⟩, by first | (simp [intOf]; done) | (simp [intOf]; omega)⟩
    · have zz := lvlC_3 hpre
      clear hpre b0 b1 b2
      go_wp2
      go_ret
      exact ⟨rfl, rfl⟩
end Go.Proofs.Ythadifbbepcdiaa
