/- fuseeref25.told: was a story answered so? -/
import Derived.Test.YtamcehfcjcmpmaaGreatDoorZfn
namespace Go.Proofs.YtamcehfcjcmpmaaGreatDoor
open Go.RowKit

def toldB (s : Story) (hs : List Bool) (a : Ans) : Bool := s.fd == a.found && s.vl.toList == a.value.toList && a.code == 0 && hs == a.hits
theorem toldB_ok {x : Item} {S : Shelf} (he : ¬ x.s.en < 0) : toldB x.s x.hs (apA x.s.c x.g S) = x.ok S := by
  unfold Item.ok answeredB toldB
  rw [decide_eq_false he, Bool.false_or]
  cases x.s.fd == (apA x.s.c x.g S).found <;> cases x.s.vl.toList == (apA x.s.c x.g S).value.toList <;> cases (apA x.s.c x.g S).code == 0 <;> rfl
set_option maxHeartbeats 2000000 in
set_option maxRecDepth 100000 in
theorem told_any (s : Story) (hs : List Bool) (a : Ans) (RA : Option Addr) (rc : Nat) (HX : Option Addr) (hx : Nat) (w : World) (hH : Arr bit 1 w w.heap.size s.hA hs) (hn : s.hn = hs.length) (hX : Arr bit 1 w w.heap.size HX a.hits) (hl : hs.length ≤ 1000000) :
    Calls Tryz.prog 31 #[.agg #[.int .i64 s.code, .bool s.fd, .string s.vl, .slice s.pA s.pn s.pc, .slice s.hA s.hn s.hc, .int .u64 s.ep], .agg #[.int .i64 a.code, .bool a.found, .string a.value, .slice RA a.pairs.length rc, .slice HX a.hits.length hx, .int .u64 0]] w fun e w' => e = .returned (.bool (toldB s hs a)) ∧ Below w.heap.size w w' := by
  have HH := hid hH
  have HXX := hid hX
  rw [hn]
  clear hH hX hn
  by_cases h3 : s.fd = a.found
  case neg =>
    have g3 : (s.fd == a.found) = false := by simpa using h3
    have e2 : toldB s hs a = false := by simp only [toldB, g3, Bool.false_and]
    rw [e2]
    clear e2 h3
    go_enter Tryz.func31, Tryz.ntmps31
    go_wp2_with fail
    go_ret
    exact ⟨rfl, (by repeat (first | exact Below.refl _ _ | assumption | refine Below.drew ?_ | refine below_drewN ?_ _ | refine Below.alloc ?_ (by first | omega | (simp; done) | (simp; omega)) _ | refine Below.setCell ?_ (by first | omega | (simp; done) | (simp; omega)) _))⟩
  have g3 : (s.fd == a.found) = true := by simp [h3]
  by_cases h4 : (s.vl.toList == a.value.toList) = true
  case neg =>
    have g4 : (s.vl.toList == a.value.toList) = false := by simpa using h4
    have e2 : toldB s hs a = false := by simp only [toldB, g3, g4, Bool.true_and, Bool.false_and]
    rw [e2]
    clear e2 h3 h4
    go_enter Tryz.func31, Tryz.ntmps31
    go_wp2_with fail
    go_ret
    exact ⟨rfl, (by repeat (first | exact Below.refl _ _ | assumption | refine Below.drew ?_ | refine below_drewN ?_ _ | refine Below.alloc ?_ (by first | omega | (simp; done) | (simp; omega)) _ | refine Below.setCell ?_ (by first | omega | (simp; done) | (simp; omega)) _))⟩
  by_cases h5 : hs.length = a.hits.length
  case neg =>
    have e2 : toldB s hs a = false := by
      have h6 : (hs == a.hits) = false := by
        have : hs ≠ a.hits := fun h => h5 (by rw [h])
        simpa using this
      simp only [toldB, h6, Bool.and_false]
    have g5 : ¬ ((hs.length : Nat) : Int) = ((a.hits.length : Nat) : Int) := by omega
    rw [e2]
    clear e2 h3 h5
    go_enter Tryz.func31, Tryz.ntmps31
    go_wp2_with fail
    go_ret
    exact ⟨rfl, (by repeat (first | exact Below.refl _ _ | assumption | refine Below.drew ?_ | refine below_drewN ?_ _ | refine Below.alloc ?_ (by first | omega | (simp; done) | (simp; omega)) _ | refine Below.setCell ?_ (by first | omega | (simp; done) | (simp; omega)) _))⟩
  have g5 : ((hs.length : Nat) : Int) = ((a.hits.length : Nat) : Int) := by omega
  by_cases h2 : a.code = 0
  case neg =>
    have g2' : (a.code == 0) = false := by simpa using h2
    have g2 : (a.code != 0) = true := by simpa using h2
    have e2 : toldB s hs a = false := by simp only [toldB, g2', Bool.and_false, Bool.false_and]
    rw [e2]
    clear e2 h3 h5 h2 g2'
    go_enter Tryz.func31, Tryz.ntmps31
    go_wp2_with fail
    go_ret
    exact ⟨rfl, (by repeat (first | exact Below.refl _ _ | assumption | refine Below.drew ?_ | refine below_drewN ?_ _ | refine Below.alloc ?_ (by first | omega | (simp; done) | (simp; omega)) _ | refine Below.setCell ?_ (by first | omega | (simp; done) | (simp; omega)) _))⟩
  have g2' : (a.code == 0) = true := by simp [h2]
  have g2 : (a.code != 0) = false := by simp [h2]
  have e2 : toldB s hs a = (hs == a.hits) := by simp only [toldB, g2', g3, h4, Bool.true_and]
  rw [e2]
  have H5 := hid h5
  clear e2 h2 h3 h5 g2'
  go_enter Tryz.func31, Tryz.ntmps31
  go_wp2_with fail
  clear g2 g3 h4 g5
  go_loopw [5] (fun v5 wr => ∃ k : Nat, k ≤ hs.length ∧ v5 = .int .i64 k ∧ Below (w.heap.size + 2) ((w.alloc (.cells #[.int .i64 s.code, .bool s.fd, .string s.vl, .slice s.pA s.pn s.pc, .slice s.hA hs.length s.hc, .int .u64 s.ep] 50)).alloc (.cells #[.int .i64 a.code, .bool a.found, .string a.value, .slice RA a.pairs.length rc, .slice HX a.hits.length hx, .int .u64 0] 50)) wr ∧ Hid (SameTo hs a.hits k)) (fun v5 _ => hs.length - (intOf v5).toNat)
  case atStart => exact ⟨0, Nat.zero_le _, rfl, Below.refl _ _, hid fun _ _ _ h => absurd h (by omega)⟩
  case round =>
    obtain ⟨k, hkl, rfl, hb, hsm⟩ := hrel
    have bw : Below w.heap.size w wr := Below.trans (by repeat (first | exact Below.refl _ _ | assumption | refine Below.drew ?_ | refine below_drewN ?_ _ | refine Below.alloc ?_ (by first | omega | (simp; done) | (simp; omega)) _ | refine Below.setCell ?_ (by first | omega | (simp; done) | (simp; omega)) _)) (hb.mono (show w.heap.size ≤ _ from (by first | omega | (simp; done) | (simp; omega))))
    have y4 := (hb.cell (p := ⟨w.heap.size, 4, none⟩) (by simp)).trans (show _ = some (Value.slice s.hA hs.length s.hc) from (by simp [go_sem]))
    have z4 := (hb.cell (p := ⟨w.heap.size + 1, 4, none⟩) (by simp)).trans (show _ = some (Value.slice HX a.hits.length hx) from (by simp [go_sem]))
    have hz : w.heap.size + 2 ≤ wr.heap.size := by have := hb.size; simpa using this
    by_cases hlt : k < hs.length
    · have hlt' : k < a.hits.length := by have := H5.out; omega
      obtain ⟨b, off, hA1, hbB, d0⟩ := (HH.out.below bw).bit1 hlt
      obtain ⟨b', off', hA2, hbB', d1⟩ := (HXX.out.below bw).bit1 hlt'
      simp only [Nat.mul_one] at d0 d1
      rw [hA1] at y4
      rw [hA2] at z4
      have hb1 : b < wr.heap.size := by omega
      have hb2 : b' < wr.heap.size := by omega
      have i1 : (0 : Int) ≤ (k : Int) := by omega
      have i2 : (k : Int) < (hs.length : Int) := by omega
      have i3 : (k : Int) < (a.hits.length : Int) := by omega
      have HA1 := hid hA1
      have HA2 := hid hA2
      clear hA1 hA2
      by_cases hkk : hs[k] = a.hits[k]
      · have g1 : (hs[k] == a.hits[k]) = true := by simp [hkk]
        have HS : Hid (SameTo hs a.hits (k + 1)) := hid fun i h h' hik => by
          rcases (by omega : i < k ∨ i = k) with h2 | rfl
          · exact hsm.out i h h' h2
          · exact hkk
        clear hkk hsm
        go_wp2_with fail
        go_quiet (fail)
        go_wp2
        exact ⟨⟨k + 1, by omega, by go_num, below_drewN hb _, HS⟩, by simp [intOf]; omega⟩
      · have g1 : (hs[k] == a.hits[k]) = false := by simpa using hkk
        have HNE : Hid ((hs == a.hits) = false) := hid (by
          have : hs ≠ a.hits := fun h => hkk (by simp [h])
          simpa using this)
        clear hkk hsm
        go_wp2_with fail
        go_quiet (fail)
        go_wp2
        go_ret
        exact ⟨by rw [HNE.out]; rfl, below_drewN bw _⟩
    · obtain rfl : k = hs.length := by omega
      have HEQ : Hid ((hs == a.hits) = true) := hid (by
        have : hs = a.hits := List.ext_getElem H5.out fun i h h' => hsm.out i h h' h
        simpa using this)
      clear hsm
      go_wp2_with fail
      go_ret
      exact ⟨by rw [HEQ.out]; rfl, bw⟩
end Go.Proofs.YtamcehfcjcmpmaaGreatDoor
