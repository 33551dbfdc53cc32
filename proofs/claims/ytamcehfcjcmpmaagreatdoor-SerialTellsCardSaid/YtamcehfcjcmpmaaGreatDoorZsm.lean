/- Small functions of the references of chapters 24 and 25; the least row is one. -/
import Derived.Test.YtamcehfcjcmpmaaGreatDoorRow
import Derived.Test.YtamcehfcjcmpmaaGreatDoorZAp5
import Derived.Deep.QuietTactic
import Derived.BigQuiet
namespace Go.Proofs.YtamcehfcjcmpmaaGreatDoor
open Go.RowKit

theorem least_uniq {L : List Item} {must d : Nat} {S : Shelf} {R R' : List Nat} (h : Least L must d S R) (h' : Least L must d S R') : R = R' := by
  induction h generalizing R' with
  | fin hf =>
    cases h' with
    | fin _ => rfl
    | step _ hn => exact absurd hf hn
  | @step d S i R hi hn hno hf hok hl ih =>
    cases h' with
    | fin hf' => exact absurd hf' hn
    | @step _ _ i' R' hi' hn' hno' hf' hok' hl' =>
      have e : i = i' := by
        rcases Nat.lt_trichotomy i i' with h1 | h1 | h1
        · exact absurd ⟨hi, hf, hok, hl.leads⟩ (hno' i h1)
        · exact h1
        · exact absurd ⟨hi', hf', hok', hl'.leads⟩ (hno i' h1)
      subst e
      rw [ih hl']
theorem before24 (a b : Story) (w : World) : Calls Tryz.prog 38 #[storyV a, storyV b] w fun e w' => e = .returned (.bool (befB a b)) ∧ Below w.heap.size w w' := by
  unfold storyV
  by_cases h1 : 0 ≤ a.en
  · by_cases h2 : a.en < b.bg
    · have e : befB a b = true := by simp [befB, h1, h2]
      rw [e]
      go_enter Tryz.func38, Tryz.ntmps38
      go_wp2
      go_ret
      exact ⟨rfl, (by repeat (first | exact Below.refl _ _ | assumption | refine Below.drew ?_ | refine below_drewN ?_ _ | refine Below.alloc ?_ (by first | omega | (simp; done) | (simp; omega)) _ | refine Below.setCell ?_ (by first | omega | (simp; done) | (simp; omega)) _))⟩
    · have e : befB a b = false := by simp [befB, h2]
      have h2' : b.bg ≤ a.en := by omega
      rw [e]
      go_enter Tryz.func38, Tryz.ntmps38
      go_wp2
      go_ret
      exact ⟨rfl, (by repeat (first | exact Below.refl _ _ | assumption | refine Below.drew ?_ | refine below_drewN ?_ _ | refine Below.alloc ?_ (by first | omega | (simp; done) | (simp; omega)) _ | refine Below.setCell ?_ (by first | omega | (simp; done) | (simp; omega)) _))⟩
  · have e : befB a b = false := by simp [befB, h1]
    have h1' : a.en < 0 := by omega
    rw [e]
    clear h1 e
    go_enter Tryz.func38, Tryz.ntmps38
    go_wp2
    go_ret
    exact ⟨rfl, (by repeat (first | exact Below.refl _ _ | assumption | refine Below.drew ?_ | refine below_drewN ?_ _ | refine Below.alloc ?_ (by first | omega | (simp; done) | (simp; omega)) _ | refine Below.setCell ?_ (by first | omega | (simp; done) | (simp; omega)) _))⟩
theorem point24 (k : Int) (w : World) : Calls Tryz.prog 37 #[.int .i64 k] w fun e w' => e = .returned (.bool (kindB k)) ∧ Below w.heap.size w w' := by
  by_cases h : kindB k = true
  · rw [h]
    simp only [kindB, Bool.or_eq_true, beq_iff_eq] at h
    rcases h with ((((h | h) | h) | h) | h) | h
    all_goals
      rw [h]
      go_enter Tryz.func37, Tryz.ntmps37
      go_wp2
      go_ret
      exact ⟨rfl, (by repeat (first | exact Below.refl _ _ | assumption | refine Below.drew ?_ | refine below_drewN ?_ _ | refine Below.alloc ?_ (by first | omega | (simp; done) | (simp; omega)) _ | refine Below.setCell ?_ (by first | omega | (simp; done) | (simp; omega)) _))⟩
  · have h' : kindB k = false := by simpa using h
    rw [h']
    simp only [kindB, Bool.or_eq_false_iff] at h'
    obtain ⟨⟨⟨⟨⟨h1, h2⟩, h3⟩, h4⟩, h5⟩, h7⟩ := h'
    clear h
    go_enter Tryz.func37, Tryz.ntmps37
    go_wp2
    go_ret
    exact ⟨rfl, (by repeat (first | exact Below.refl _ _ | assumption | refine Below.drew ?_ | refine below_drewN ?_ _ | refine Below.alloc ?_ (by first | omega | (simp; done) | (simp; omega)) _ | refine Below.setCell ?_ (by first | omega | (simp; done) | (simp; omega)) _))⟩
set_option maxHeartbeats 8000000 in
set_option maxRecDepth 100000 in
theorem may24 (l : List Story) (A : Option Addr) (c : Nat) (w : World) (hA : Arr Story.enc 14 w w.heap.size A l) (hc : l.length ≤ c) (hm : c ≤ 9223372036854775807) : Calls Tryz.prog 19 #[.slice A l.length c] w (GivesMay l w) := by
  have HA := hid hA
  clear hA
  go_enter Tryz.func19, Tryz.ntmps19
  go_wp2_with fail
  go_loopw [3] (fun v3 wr => ∃ k : Nat, k ≤ l.length ∧ v3 = .int .i64 k ∧ Below w.heap.size w wr ∧ Hid (MayTo l k)) (fun v3 _ => l.length - (intOf v3).toNat)
  case atStart => exact ⟨0, Nat.zero_le _, rfl, Below.refl _ _, hid fun _ _ h => absurd h (by omega)⟩
  case round =>
    obtain ⟨k, hkl, rfl, hbw, hmay⟩ := hrel
    have hsz := hbw.size
    by_cases hlt : k < l.length
    · obtain ⟨b, off, rfl, hB, hcells⟩ := (HA.out.below hbw).story hlt
      obtain ⟨c0, c1, c2, c3, c4, c5, c6, c7, c8, c9, c10, c11, c12, c13⟩ := hcells
      have hbr : b < wr.heap.size := by omega
      by_cases t1 : l[k].bg < 0
      · have HNO := hid (may_no hlt (fun h => by have := h.1; omega))
        go_wp2_with fail
        go_quiet (fail)
        go_wp2
        go_ret
        exact ⟨false, rfl, by simpa using HNO.out, below_drewN hbw _⟩
      · have t1' : 0 ≤ l[k].bg := by omega
        rcases Nat.eq_zero_or_pos k with hk0 | hk0
        · subst hk0
          have t1d : decide (l[0].bg < 0) = false := by simpa using t1'
          simp only [Nat.zero_mul, Nat.add_zero] at c0 c1 c2 c3 c4 c5 c6 c7 c8 c9 c10 c11 c12 c13
          by_cases t3 : l[0].en = -1
          · have HOK := hid (hmay.out.succ hlt ⟨by omega, fun j h => by omega, .inl t3⟩)
            have t3' : (l[0].en != -1) = false := by simp [t3]
            clear t3
            go_wp2_with fail
            go_quiet (fail)
            go_wp2
            exact ⟨⟨0 + 1, by omega, by go_num, below_drewN hbw _, HOK⟩, by simp [intOf]; omega⟩
          · have t3' : (l[0].en != -1) = true := by simpa using t3
            by_cases t4 : l[0].bg < l[0].en
            · have HOK := hid (hmay.out.succ hlt ⟨by omega, fun j h => by omega, .inr t4⟩)
              have t4' : decide (l[0].en ≤ l[0].bg) = false := by simp; omega
              clear t3
              go_wp2_with fail
              go_quiet (fail)
              go_wp2
              exact ⟨⟨0 + 1, by omega, by go_num, below_drewN hbw _, HOK⟩, by simp [intOf]; omega⟩
            · have HNO := hid (may_no hlt (fun h => by rcases h.2.2 with h | h; exact t3 h; omega))
              have t4' : decide (l[0].en ≤ l[0].bg) = true := by simp; omega
              clear t3 t4
              go_wp2_with fail
              go_quiet (fail)
              go_wp2
              go_ret
              exact ⟨false, rfl, by simpa using HNO.out, below_drewN hbw _⟩
        · obtain ⟨m, rfl⟩ : ∃ m, k = m + 1 := ⟨k - 1, by omega⟩
          obtain ⟨b', off', hbo, hB', hcells'⟩ := (HA.out.below hbw).story (show m < l.length by omega)
          obtain ⟨rfl, rfl⟩ : b = b' ∧ off = off' := by simpa using hbo
          have d12 := hcells'.c12
          clear hbo hcells'
          have i1 : (0 : Int) ≤ (m : Int) := by omega
          have i2 : (m : Int) < (l.length : Int) := by omega
          have i3 : (0 : Int) < (m : Int) + 1 := by omega
          have i3d : decide ((0 : Int) < (m : Int) + 1) = true := decide_eq_true i3
          have t1d : decide ((l[m + 1]'hlt).bg < 0) = false := by simpa using t1'
          by_cases t2 : (l[m]'(by omega)).bg < (l[m + 1]'hlt).bg
          · have t2' : decide ((l[m + 1]'hlt).bg ≤ (l[m]'(by omega)).bg) = false := by simp; omega
            by_cases t3 : (l[m + 1]'hlt).en = -1
            · have HOK := hid (hmay.out.succ hlt ⟨by omega, fun j h => (show (l[m]'(by omega)).bg < (l[m + 1]'hlt).bg from t2) |> fun q => by cases (show j = m by omega); exact q, .inl t3⟩)
              have t3' : ((l[m + 1]'hlt).en != -1) = false := by simp [t3]
              clear t3
              go_wp2_with fail
              go_quiet (fail)
              go_wp2
              exact ⟨⟨m + 1 + 1, by omega, by go_num, below_drewN hbw _, HOK⟩, by simp [intOf]; omega⟩
            · have t3' : ((l[m + 1]'hlt).en != -1) = true := by simpa using t3
              by_cases t4 : (l[m + 1]'hlt).bg < (l[m + 1]'hlt).en
              · have HOK := hid (hmay.out.succ hlt ⟨by omega, fun j h => (show (l[m]'(by omega)).bg < (l[m + 1]'hlt).bg from t2) |> fun q => by cases (show j = m by omega); exact q, .inr t4⟩)
                have t4' : decide ((l[m + 1]'hlt).en ≤ (l[m + 1]'hlt).bg) = false := by simp; omega
                clear t3
                go_wp2_with fail
                go_quiet (fail)
                go_wp2
                exact ⟨⟨m + 1 + 1, by omega, by go_num, below_drewN hbw _, HOK⟩, by simp [intOf]; omega⟩
              · have HNO := hid (may_no hlt (fun h => by rcases h.2.2 with h | h; exact t3 h; omega))
                have t4' : decide ((l[m + 1]'hlt).en ≤ (l[m + 1]'hlt).bg) = true := by simp; omega
                clear t3 t4
                go_wp2_with fail
                go_quiet (fail)
                go_wp2
                go_ret
                exact ⟨false, rfl, by simpa using HNO.out, below_drewN hbw _⟩
          · have HNO := hid (may_no hlt (fun h => by have := h.2.1 m rfl; omega))
            have t2' : decide ((l[m + 1]'hlt).bg ≤ (l[m]'(by omega)).bg) = true := by simp; omega
            clear t2
            go_wp2_with fail
            go_quiet (fail)
            go_wp2
            go_ret
            exact ⟨false, rfl, by simpa using HNO.out, below_drewN hbw _⟩
    · have HYES : Hid (MayS l) := hid (fun i hi _ => hmay.out i hi (by omega))
      go_wp2
      go_ret
      exact ⟨true, rfl, by simpa using HYES.out, hbw⟩
end Go.Proofs.YtamcehfcjcmpmaaGreatDoor
