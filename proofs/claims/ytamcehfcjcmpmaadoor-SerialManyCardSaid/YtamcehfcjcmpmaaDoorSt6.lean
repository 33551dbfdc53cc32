/- slices.Equal at bools; serial.answered. -/
import Derived.Test.YtamcehfcjcmpmaaDoorSt5
namespace Go.Proofs.YtamcehfcjcmpmaaDoor
open Go.RowKit

theorem Arr.bit1 {w : World} {B : Nat} {A : Option Addr} {l : List Bool} (h : Arr bit 1 w B A l) {i : Nat} (hi : i < l.length) : ∃ b off, A = some ⟨b, off, none⟩ ∧ b < B ∧ w.cell? ⟨b, off + i * 1, none⟩ = some (.bool l[i]) := by
  rcases h with h | ⟨b, off, hA, hB, hc⟩
  · subst h; simp at hi
  · exact ⟨b, off, hA, hB, hc i hi 0 _ rfl⟩
def SameTo (l m : List Bool) (k : Nat) : Prop := ∀ i (h : i < l.length) (h' : i < m.length), i < k → l[i] = m[i]
set_option maxHeartbeats 2000000 in
theorem equalBit (l m : List Bool) (A : Option Addr) (c : Nat) (B : Option Addr) (d : Nat) (w : World) (hA : Arr bit 1 w w.heap.size A l) (hB : Arr bit 1 w w.heap.size B m) (hl : l.length ≤ 1000000) :
    Calls Tryd.prog 64 #[.slice A l.length c, .slice B m.length d] w fun e w' => e = .returned (.bool (l == m)) ∧ Below w.heap.size w w' := by
  have HA := hid hA
  have HB := hid hB
  clear hA hB
  by_cases hlen : l.length = m.length
  · have e1 : (((l.length : Nat) : Int) != ((m.length : Nat) : Int)) = false := by simp [hlen]
    have HLEN := hid hlen
    clear hlen
    go_enter Tryd.func64, Tryd.ntmps64
    go_wp2_with fail
    go_loopw [13] (fun v13 wr => ∃ k : Nat, k ≤ l.length ∧ v13 = .int .i64 k ∧ Below w.heap.size w wr ∧ Hid (SameTo l m k)) (fun v13 _ => l.length - (intOf v13).toNat)
    case atStart => exact ⟨0, Nat.zero_le _, rfl, Below.refl _ _, hid fun _ _ _ h => absurd h (by omega)⟩
    case round =>
      obtain ⟨k, hkl, rfl, hb, hs⟩ := hrel
      by_cases hlt : k < l.length
      · have hlt' : k < m.length := by have := HLEN.out; omega
        obtain ⟨b, off, rfl, hbB, d0⟩ := (HA.out.below hb).bit1 hlt
        obtain ⟨b', off', rfl, hbB', d1⟩ := (HB.out.below hb).bit1 hlt'
        simp only [Nat.mul_one] at d0 d1
        have hsz := hb.size
        have hb1 : b < wr.heap.size := by omega
        have hb2 : b' < wr.heap.size := by omega
        have i1 : (0 : Int) ≤ (k : Int) := by omega
        have i2 : (k : Int) < (l.length : Int) := by omega
        have i3 : (k : Int) < (m.length : Int) := by omega
        by_cases hkk : l[k] = m[k]
        · have g1 : (l[k] == m[k]) = true := by simp [hkk]
          have HS : Hid (SameTo l m (k + 1)) := hid fun i h h' hik => by
            rcases (by omega : i < k ∨ i = k) with h2 | rfl
            · exact hs.out i h h' h2
            · exact hkk
          clear hkk hs
          go_wp2_with fail
          go_quiet (fail)
          go_wp2
          exact ⟨⟨k + 1, by omega, by go_num, below_drewN hb _, HS⟩, by simp [intOf]; omega⟩
        · have g1 : (l[k] == m[k]) = false := by simpa using hkk
          have HNE : Hid ((l == m) = false) := hid (by
            have : l ≠ m := fun h => hkk (by simp [h])
            simpa using this)
          clear hkk hs
          go_wp2_with fail
          go_quiet (fail)
          go_wp2
          go_ret
          exact ⟨by rw [HNE.out]; rfl, below_drewN hb _⟩
      · have HEQ : Hid ((l == m) = true) := hid (by
          have hle := HLEN.out
          have : l = m := List.ext_getElem hle fun i h h' => hs.out i h h' (by omega)
          simpa using this)
        go_wp2_with fail
        go_ret
        exact ⟨by rw [HEQ.out]; rfl, hb⟩
  · have e1 : (((l.length : Nat) : Int) != ((m.length : Nat) : Int)) = true := by simp; omega
    have e2 : (l == m) = false := by
      have : l ≠ m := fun h => hlen (by rw [h])
      simpa using this
    rw [e2]
    clear e2 hlen
    go_enter Tryd.func64, Tryd.ntmps64
    go_wp2_with fail
    go_ret
    exact ⟨rfl, Below.refl _ _⟩
/-- was a story answered so? -/
def answeredB (s : Story) (hs : List Bool) (a : Ans) : Bool := decide (s.en < 0) || (a.code == 0 && s.fd == a.found && s.vl.toList == a.value.toList && hs == a.hits)
set_option maxHeartbeats 4000000 in
set_option maxRecDepth 100000 in
theorem answered_any (s : Story) (hs : List Bool) (a : Ans) (RA : Option Addr) (rc : Nat) (HX : Option Addr) (hx : Nat) (w : World) (hH : Arr bit 1 w w.heap.size s.hA hs) (hn : s.hn = hs.length) (hX : Arr bit 1 w w.heap.size HX a.hits) (hl : hs.length ≤ 1000000) :
    Calls Tryd.prog 51 #[storyV s, .agg #[.int .i64 a.code, .bool a.found, .string a.value, .slice RA a.pairs.length rc, .slice HX a.hits.length hx, .int .u64 0]] w fun e w' => e = .returned (.bool (answeredB s hs a)) ∧ Below w.heap.size w w' := by
  have T : ∀ W, Below w.heap.size w W → Calls Tryd.prog 64 #[.slice s.hA s.hn s.hc, .slice HX a.hits.length hx] W fun e w' => e = .returned (.bool (hs == a.hits)) ∧ Below W.heap.size W w' := fun W hb => by
    rw [hn]
    exact equalBit hs a.hits _ _ _ _ W ((hH.below hb).more hb.size) ((hX.below hb).more hb.size) hl
  clear hH hX hl hn
  unfold storyV
  by_cases h1 : s.en < 0
  · have g1 : decide (s.en < 0) = true := by simpa using h1
    have e2 : answeredB s hs a = true := by simp [answeredB, h1]
    rw [e2]
    clear e2 T g1
    go_enter Tryd.func51, Tryd.ntmps51
    go_wp2_with fail
    go_ret
    exact ⟨rfl, (by repeat (first | exact Below.refl _ _ | assumption | refine Below.drew ?_ | refine below_drewN ?_ _ | refine Below.alloc ?_ (by first | omega | (simp; done) | (simp; omega)) _ | refine Below.setCell ?_ (by first | omega | (simp; done) | (simp; omega)) _))⟩
  · have g1 : decide (s.en < 0) = false := decide_eq_false h1
    by_cases h2 : a.code = 0
    · have g2 : (a.code == 0) = true := by simp [h2]
      by_cases h3 : s.fd = a.found
      · have g3 : (s.fd == a.found) = true := by simp [h3]
        by_cases h4 : (s.vl.toList == a.value.toList) = true
        · have e2 : answeredB s hs a = (hs == a.hits) := by simp only [answeredB, g2, g3, h4, decide_eq_false h1, Bool.true_and, Bool.false_or]
          rw [e2]
          clear e2 h1 h2 h3
          go_enter Tryd.func51, Tryd.ntmps51
          go_wp2_with (go_at_call 64; refine (T _ (by repeat (first | exact Below.refl _ _ | assumption | refine Below.drew ?_ | refine below_drewN ?_ _ | refine Below.alloc ?_ (by first | omega | (simp; done) | (simp; omega)) _ | refine Below.setCell ?_ (by first | omega | (simp; done) | (simp; omega)) _))).mono ?_; rintro e w1 ⟨rfl, hb1⟩)
          go_ret
          exact ⟨rfl, Below.trans (by repeat (first | exact Below.refl _ _ | assumption | refine Below.drew ?_ | refine below_drewN ?_ _ | refine Below.alloc ?_ (by first | omega | (simp; done) | (simp; omega)) _ | refine Below.setCell ?_ (by first | omega | (simp; done) | (simp; omega)) _)) (hb1.mono (by first | omega | (simp; done) | (simp; omega)))⟩
        · have g4 : (s.vl.toList == a.value.toList) = false := by simpa using h4
          have e2 : answeredB s hs a = false := by simp only [answeredB, g2, g3, g4, decide_eq_false h1, Bool.true_and, Bool.false_or, Bool.and_false, Bool.false_and]
          rw [e2]
          clear e2 T h1 h2 h3 h4
          go_enter Tryd.func51, Tryd.ntmps51
          go_wp2_with fail
          go_ret
          exact ⟨rfl, (by repeat (first | exact Below.refl _ _ | assumption | refine Below.drew ?_ | refine below_drewN ?_ _ | refine Below.alloc ?_ (by first | omega | (simp; done) | (simp; omega)) _ | refine Below.setCell ?_ (by first | omega | (simp; done) | (simp; omega)) _))⟩
      · have g3 : (s.fd == a.found) = false := by simpa using h3
        have e2 : answeredB s hs a = false := by simp only [answeredB, g2, g3, decide_eq_false h1, Bool.false_or, Bool.and_false, Bool.false_and]
        rw [e2]
        clear e2 T h1 h2 h3
        go_enter Tryd.func51, Tryd.ntmps51
        go_wp2_with fail
        go_ret
        exact ⟨rfl, (by repeat (first | exact Below.refl _ _ | assumption | refine Below.drew ?_ | refine below_drewN ?_ _ | refine Below.alloc ?_ (by first | omega | (simp; done) | (simp; omega)) _ | refine Below.setCell ?_ (by first | omega | (simp; done) | (simp; omega)) _))⟩
    · have g2 : (a.code == 0) = false := by simpa using h2
      have e2 : answeredB s hs a = false := by simp only [answeredB, g2, decide_eq_false h1, Bool.false_or, Bool.false_and]
      rw [e2]
      clear e2 T h1 h2
      go_enter Tryd.func51, Tryd.ntmps51
      go_wp2_with fail
      go_ret
      exact ⟨rfl, (by repeat (first | exact Below.refl _ _ | assumption | refine Below.drew ?_ | refine below_drewN ?_ _ | refine Below.alloc ?_ (by first | omega | (simp; done) | (simp; omega)) _ | refine Below.setCell ?_ (by first | omega | (simp; done) | (simp; omega)) _))⟩
end Go.Proofs.YtamcehfcjcmpmaaDoor
