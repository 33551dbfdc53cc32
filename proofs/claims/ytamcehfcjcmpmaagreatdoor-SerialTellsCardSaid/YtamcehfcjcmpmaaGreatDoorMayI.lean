/- ideal.May; rows that rise, as far as gone through. -/
import Derived.Test.YtamcehfcjcmpmaaGreatDoorApp
namespace Go.Proofs.YtamcehfcjcmpmaaGreatDoor
open Go.RowKit

def RiseTo (l : List Pair) (k : Nat) : Prop := ∀ i, (h : i + 1 < l.length) → i + 1 < k → kl (l[i]'(by omega)).key l[i + 1].key = true
theorem RiseTo.one (l : List Pair) : RiseTo l 1 := fun _ _ h => absurd h (by omega)
theorem RiseTo.zero (l : List Pair) : RiseTo l 0 := fun _ _ h => absurd h (by omega)
theorem RiseTo.succ {l : List Pair} {k : Nat} (hk : k + 1 < l.length) (h : RiseTo l (k + 1)) (h1 : kl (l[k]'(by omega)).key l[k + 1].key = true) : RiseTo l (k + 2) := by
  intro i hi hlt
  rcases (by omega : i + 1 < k + 1 ∨ i = k) with h' | rfl
  · exact h i hi h'
  · exact h1
theorem RiseTo.all {l : List Pair} {k : Nat} (hk : l.length ≤ k) (h : RiseTo l k) : mayB l = true := (mayB_iff l).2 fun i hi => h i hi (by omega)
theorem mayB_no {l : List Pair} {k : Nat} (hk : k + 1 < l.length) (h : kl (l[k]'(by omega)).key l[k + 1].key = false) : mayB l = false := by
  rw [Bool.eq_false_iff]
  intro e
  rw [(mayB_iff l).1 e k hk] at h
  cases h
set_option maxHeartbeats 2000000 in
theorem may_any (s : Shelf) (PA : Option Addr) (pc : Nat) (QA : Option Addr) (qn qc : Nat) (w : World) (hA : Arr Pair.enc 2 w w.heap.size PA s.pairs) (hc : s.pairs.length ≤ pc) (hm : pc ≤ 9223372036854775807) :
    Calls Tryz.prog 22 #[.agg #[.slice PA s.pairs.length pc, .slice QA qn qc]] w fun e w' => e = .returned (.bool (mayB s.pairs)) ∧ Below w.heap.size w w' := by
  have H := hid hA
  clear hA
  go_enter Tryz.func22, Tryz.ntmps22
  go_wp2_with fail
  go_loopw [8] (fun i wr => ∃ k : Nat, k ≤ s.pairs.length ∧ i = .int .i64 k ∧ Below (w.heap.size + 1) (w.alloc (.cells #[.slice PA s.pairs.length pc, .slice QA qn qc] 25)) wr ∧ RiseTo s.pairs k) (fun i _ => s.pairs.length - (intOf i).toNat)
  case atStart => exact ⟨0, Nat.zero_le _, rfl, Below.refl _ _, RiseTo.zero _⟩
  case round =>
    obtain ⟨k, hkl, rfl, hb, hN⟩ := hrel
    have HN := hid hN
    clear hN
    have hbw : Below w.heap.size w wr := Below.trans (by repeat (first | exact Below.refl _ _ | assumption | refine Below.drew ?_ | refine below_drewN ?_ _ | refine Below.alloc ?_ (by first | omega | (simp; done) | (simp; omega)) _ | refine Below.setCell ?_ (by first | omega | (simp; done) | (simp; omega)) _)) (hb.mono (show w.heap.size ≤ _ from (by first | omega | (simp; done) | (simp; omega))))
    have c0 : wr.cell? ⟨w.heap.size, 0, none⟩ = some (.slice PA s.pairs.length pc) := (hb.cell (p := ⟨w.heap.size, 0, none⟩) (by simp)).trans (by simp [go_sem])
    have hsz : w.heap.size < wr.heap.size := by have := hb.size; simp at this; omega
    by_cases hlt : k < s.pairs.length
    · obtain ⟨b', off', rfl, hB', e0, e1⟩ := (H.out.below hbw).pair hlt
      by_cases hk0 : k = 0
      · subst hk0
        have HQ := hid (RiseTo.one s.pairs)
        simp only [Nat.zero_mul, Nat.add_zero] at e0 e1
        go_wp2_with fail
        go_quiet (fail)
        go_wp2
        refine ⟨⟨1, by omega, by go_num, ?_, HQ.out⟩, by simp [intOf]; omega⟩
        exact below_drewN (hb.alloc (by first | omega | (simp; done) | (simp; omega)) _) _
      · obtain ⟨m, rfl⟩ : ∃ m, k = m + 1 := ⟨k - 1, by omega⟩
        obtain ⟨b, off, hA, hB, d0, d1⟩ := (H.out.below hbw).pair (i := m) (by omega)
        cases hA
        have k0 : (0 : Int) ≤ (m : Int) := by omega
        have k1 : (m : Int) < (s.pairs.length : Int) := by omega
        have hpos : decide (0 < (m : Int) + 1) = true := by rw [decide_eq_true_iff]; omega
        have hnb : b' < wr.heap.size := by omega
        have hnb' : ¬ (b' = wr.heap.size) := by omega
        have hwr : IntKind.i64.wrap (m : Int) = (m : Int) := Go.IntWalk.i64_in _ (by omega)
        cases hq : kl (s.pairs[m]).key s.pairs[m + 1].key with
        | true =>
          have HQ := hid (HN.out.succ hlt hq)
          have hq' : Op.bytesLess (s.pairs[m]).key.toList s.pairs[m + 1].key.toList = true := hq
          clear hq
          go_wp2_with fail
          go_quiet (fail)
          go_wp2
          refine ⟨⟨m + 2, by omega, by go_num, ?_, HQ.out⟩, by simp [intOf]; omega⟩
          exact below_drewN (hb.alloc (by first | omega | (simp; done) | (simp; omega)) _) _
        | false =>
          have HE := hid (mayB_no hlt hq)
          have hq' : Op.bytesLess (s.pairs[m]).key.toList s.pairs[m + 1].key.toList = false := hq
          clear hq
          go_wp2_with fail
          go_quiet (fail)
          go_wp2
          go_ret
          exact ⟨by rw [HE.out]; rfl, below_drewN (hbw.alloc (by first | omega | (simp; done) | (simp; omega)) _) _⟩
    · have HE := hid (HN.out.all (show s.pairs.length ≤ k by omega))
      go_wp2
      go_ret
      exact ⟨by rw [HE.out]; rfl, hbw⟩
end Go.Proofs.YtamcehfcjcmpmaaGreatDoor
