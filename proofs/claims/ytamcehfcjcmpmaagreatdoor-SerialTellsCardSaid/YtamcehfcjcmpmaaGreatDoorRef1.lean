/- The reference's Get; whether a store's keys rise, by the program and by the reference. -/
import Derived.Test.YtamcehfcjcmpmaaGreatDoorMayI
import Derived.Test.YtamcehfcjcmpmaaGreatDoorApp
namespace Go.Proofs.YtamcehfcjcmpmaaGreatDoor
open Go.RowKit

set_option maxHeartbeats 1000000 in
theorem refget_any (s : Shelf) (PA : Option Addr) (pc : Nat) (QA : Option Addr) (qn qc : Nat) (key : ByteArray) (w : World) (hA : Arr Pair.enc 2 w w.heap.size PA s.pairs) (hc : s.pairs.length ≤ pc) (hm : pc ≤ 9223372036854775807) :
    Calls Tryz.prog 40 #[.agg #[.slice PA s.pairs.length pc, .slice QA qn qc], .string key] w fun e w' => e = .returned (.tuple #[.string (getD' s.pairs key).1, .bool (getD' s.pairs key).2]) ∧ Below w.heap.size w w' := by
  have H := hid hA
  clear hA
  go_enter Tryz.func40, Tryz.ntmps40
  go_wp2_with fail
  go_loopw [6] (fun i wr => ∃ k : Nat, k ≤ s.pairs.length ∧ i = .int .i64 k ∧ wr = w.alloc (.cells #[.slice PA s.pairs.length pc, .slice QA qn qc] 25) ∧ PNone (eqK key) s.pairs k) (fun i _ => s.pairs.length - (intOf i).toNat)
  case atStart => exact ⟨0, Nat.zero_le _, rfl, rfl, PNone.zero _ _⟩
  case round =>
    obtain ⟨k, hkl, rfl, rfl, hN⟩ := hrel
    have HN := hid hN
    clear hN
    have hbw : Below w.heap.size w (w.alloc (.cells #[.slice PA s.pairs.length pc, .slice QA qn qc] 25)) := (by repeat (first | exact Below.refl _ _ | assumption | refine Below.drew ?_ | refine below_drewN ?_ _ | refine Below.alloc ?_ (by first | omega | (simp; done) | (simp; omega)) _ | refine Below.setCell ?_ (by first | omega | (simp; done) | (simp; omega)) _))
    by_cases hlt : k < s.pairs.length
    · obtain ⟨b, off, rfl, hB, c0, c1⟩ := (H.out.below hbw).pair hlt
      have hlt' : (k : Int) < (s.pairs.length : Int) := by omega
      cases hq : eqK key s.pairs[k] with
      | true =>
        have HQ := hid (show getD' s.pairs key = (s.pairs[k].val, true) by rw [getD', fi_find hlt (fi_hit hlt HN.out hq)])
        have he : (s.pairs[k].key.toList == key.toList) = true := hq
        clear hq
        go_wp2
        go_ret2
        exact ⟨by simp only [HQ.out]; rfl, hbw⟩
      | false =>
        have HQ := hid (HN.out.succ hlt hq)
        have he : (s.pairs[k].key.toList == key.toList) = false := hq
        clear hq
        go_wp2
        go_roundw
        case rel => exact ⟨k + 1, by omega, by go_num, by first | rfl | trivial, HQ.out⟩
        case measure => simp [intOf]; omega
    · have e : getD' s.pairs key = (ByteArray.empty, false) := by rw [getD', fi_find_none (fi_miss (by omega) HN.out)]
      have HE := hid e
      clear e
      go_wp2
      go_ret2
      exact ⟨by simp only [HE.out]; rfl, hbw⟩
set_option maxHeartbeats 2000000 in
theorem refmay_any (s : Shelf) (PA : Option Addr) (pc : Nat) (QA : Option Addr) (qn qc : Nat) (w : World) (hA : Arr Pair.enc 2 w w.heap.size PA s.pairs) (hc : s.pairs.length ≤ pc) (hm : pc ≤ 9223372036854775807) :
    Calls Tryz.prog 18 #[.agg #[.slice PA s.pairs.length pc, .slice QA qn qc]] w fun e w' => e = .returned (.bool (mayB s.pairs)) ∧ Below w.heap.size w w' := by
  have H := hid hA
  clear hA
  go_enter Tryz.func18, Tryz.ntmps18
  go_wp2_with fail
  go_loopw [3] (fun i wr => ∃ k : Nat, k ≤ s.pairs.length ∧ i = .int .i64 ((k : Int) + 1) ∧ Below (w.heap.size + 1) (w.alloc (.cells #[.slice PA s.pairs.length pc, .slice QA qn qc] 25)) wr ∧ RiseTo s.pairs (k + 1)) (fun i _ => s.pairs.length + 1 - (intOf i).toNat)
  case atStart => exact ⟨0, Nat.zero_le _, rfl, Below.refl _ _, RiseTo.one _⟩
  case round =>
    obtain ⟨k, hkl, rfl, hb, hN⟩ := hrel
    have HN := hid hN
    clear hN
    have hbw : Below w.heap.size w wr := Below.trans (by repeat (first | exact Below.refl _ _ | assumption | refine Below.drew ?_ | refine below_drewN ?_ _ | refine Below.alloc ?_ (by first | omega | (simp; done) | (simp; omega)) _ | refine Below.setCell ?_ (by first | omega | (simp; done) | (simp; omega)) _)) (hb.mono (show w.heap.size ≤ _ from (by first | omega | (simp; done) | (simp; omega))))
    have c0 : wr.cell? ⟨w.heap.size, 0, none⟩ = some (.slice PA s.pairs.length pc) := (hb.cell (p := ⟨w.heap.size, 0, none⟩) (by simp)).trans (by simp [go_sem])
    by_cases hlt : k + 1 < s.pairs.length
    · obtain ⟨b, off, rfl, hB, d0, d1⟩ := (H.out.below hbw).pair (i := k) (by omega)
      obtain ⟨b', off', hA, hB', e0, e1⟩ := (H.out.below hbw).pair (i := k + 1) hlt
      cases hA
      have k0 : (0 : Int) ≤ (k : Int) := by omega
      have k1 : (k : Int) < (s.pairs.length : Int) := by omega
      have k2 : (k : Int) + 1 < (s.pairs.length : Int) := by omega
      cases hq : kl (s.pairs[k]).key s.pairs[k + 1].key with
      | true =>
        have HQ := hid (HN.out.succ hlt hq)
        have hq' : Op.bytesLess (s.pairs[k]).key.toList s.pairs[k + 1].key.toList = true := hq
        clear hq
        go_wp2_with fail
        go_quiet (fail)
        go_wp2
        refine ⟨⟨k + 1, by omega, by go_num, below_drewN hb _, HQ.out⟩, by simp [intOf]; omega⟩
      | false =>
        have HE := hid (mayB_no hlt hq)
        have hq' : Op.bytesLess (s.pairs[k]).key.toList s.pairs[k + 1].key.toList = false := hq
        clear hq
        go_wp2_with fail
        go_quiet (fail)
        go_wp2
        go_ret
        exact ⟨by rw [HE.out]; rfl, below_drewN hbw _⟩
    · have HE := hid (HN.out.all (show s.pairs.length ≤ k + 1 by omega))
      have k2 : ¬ (k : Int) + 1 < (s.pairs.length : Int) := by omega
      go_wp2
      go_ret
      exact ⟨by rw [HE.out]; rfl, hbw⟩
end Go.Proofs.YtamcehfcjcmpmaaGreatDoor
