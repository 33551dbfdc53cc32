/- The reference's Whole. -/
import Derived.Test.YthpegmeebhkhbaaWhole
namespace Go.Proofs.Ythpegmeebhkhbaa
open Go.RowKit Go.Maps

/-- two effects in variables -/
def EffVars (wr wx : World) (x y : Eff) (v4 v5 : Value) : Prop :=
  ∃ p q, v4 = .pointer (some ⟨p, 0, none⟩) ∧ v5 = .pointer (some ⟨q, 0, none⟩) ∧ Below wr.heap.size wr wx ∧ wr.heap.size < wx.heap.size ∧
    (wx.cell? ⟨p, 4, none⟩ = some (.int .u64 x.ver) ∧ wx.cell? ⟨p, 5, none⟩ = some (.int .u64 x.epoch) ∧ wx.cell? ⟨p, 6, none⟩ = some (.int .i64 x.group)) ∧
    (wx.cell? ⟨q, 4, none⟩ = some (.int .u64 y.ver) ∧ wx.cell? ⟨q, 5, none⟩ = some (.int .u64 y.epoch) ∧ wx.cell? ⟨q, 6, none⟩ = some (.int .i64 y.group))
set_option maxHeartbeats 4000000 in
set_option maxRecDepth 100000 in
theorem refwhole_any (l : List Eff) (A : Option Addr) (c : Nat) (w : World) (hA : Arr Eff.enc 7 w w.heap.size A l) (hc : l.length ≤ c) (hm : c ≤ 9223372036854775807) :
    Calls Try.prog 29 #[.slice A l.length c] w (GivesWhole l w) := by
  have HA := hid hA
  clear hA
  go_enter Try.func29, Try.ntmps29
  go_wp2_with fail
  go_loopw [3] (fun vi wr => ∃ k : Nat, k ≤ l.length ∧ vi = .int .i64 ((k : Int) + 1) ∧ Below w.heap.size w wr ∧ WholeTo l (k + 1)) (fun vi _ => l.length + 1 - (intOf vi).toNat)
  case atStart => exact ⟨0, Nat.zero_le _, rfl, Below.refl _ _, WholeTo.one l (by omega)⟩
  case round =>
    obtain ⟨m, hkl, rfl, hb, hto⟩ := hrel
    have HTO := hid hto
    have HB := hid hb
    clear hto hb
    by_cases hlt : m + 1 < l.length
    · have hml : m < l.length := by omega
      obtain ⟨b, off, hA1, hB, k0, k1, k2, k3, k4, k5, k6⟩ := (HA.out.below HB.out).eff hlt
      obtain ⟨b', off', hA2, hB', d0, d1, d2, d3, d4, d5, d6⟩ := (HA.out.below HB.out).eff hml
      subst hA1
      cases hA2
      have kk0 : (0 : Int) ≤ (m : Int) := by omega
      have kk1 : (m : Int) < (l.length : Int) := by omega
      have kk2 : (m : Int) + 1 < (l.length : Int) := by omega
      have hbr : b < wr.heap.size := by have := HB.out.size; omega
      go_upto_region 4 with fail
      go_cut [4, 5] (fun v4 v5 wx => EffVars wr wx l[m] l[m + 1] v4 v5)
      case first =>
        go_region
        all_goals
          go_wp2_with fail
          go_meet
          refine ⟨_, _, rfl, rfl, (by repeat (first | exact Below.refl _ _ | assumption | refine Below.drew ?_ | refine below_drewN ?_ _ | refine Below.alloc ?_ (by first | omega | (simp; done) | (simp; omega)) _ | refine Below.setCell ?_ (by first | omega | (simp; done) | (simp; omega)) _)), by simp; omega, ⟨?_, ?_, ?_⟩, ⟨?_, ?_, ?_⟩⟩
          all_goals simp [go_sem]
      case rest =>
        obtain ⟨p, q, rfl, rfl, hbx, hsx, ⟨p4, p5, p6⟩, ⟨q4, q5, q6⟩⟩ := hcut
        have HBX := hid (HB.out.trans (hbx.mono HB.out.size))
        clear hbx k0 k1 k2 k3 k4 k5 k6 d0 d1 d2 d3 d4 d5 d6
        by_cases t1 : l[m + 1].ver ≤ l[m].ver
        · have HNO := hid (whole_no hlt fun h => absurd h.1 (by omega))
          go_wp2_with fail
          go_ret
          exact ⟨false, rfl, by simpa using HNO.out, HBX.out⟩
        by_cases t2 : l[m + 1].epoch < l[m].epoch
        · have HNO := hid (whole_no hlt fun h => absurd h.2.1 (by omega))
          go_wp2_with fail
          go_ret
          exact ⟨false, rfl, by simpa using HNO.out, HBX.out⟩
        by_cases t3 : l[m].group = l[m + 1].group
        · by_cases t4 : l[m].epoch = l[m + 1].epoch
          · have HOK := hid (HTO.out.succ hlt ⟨by omega, by omega, fun _ => t4, fun h => absurd t3 h⟩)
            rw [t3] at p6
            rw [t4] at p5
            clear t2 t3 t4
            go_wp2_with fail
            go_loopw [6] (fun vj wy => ∃ j n : Nat, j ≤ m ∧ vj = .int .i64 j ∧ wy = wc.drewN n) (fun vj _ => m - (intOf vj).toNat)
            case atStart => exact ⟨0, 0, Nat.zero_le _, rfl, rfl⟩
            case round =>
              obtain ⟨j, n, hj, rfl, rfl⟩ := hrel
              by_cases hjm : j < m
              · obtain ⟨b2, off2, hA3, hB2, e0, e1, e2, e3, e4, e5, e6⟩ := (HA.out.below HBX.out).eff (i := j) (show j < l.length by omega)
                cases hA3
                clear e0 e1 e2 e3 e4 e5
                have hjl : (j : Int) < (l.length : Int) := by omega
                have hjm' : (j : Int) < (m : Int) := by omega
                by_cases hg : l[j].group = l[m + 1].group
                · rw [hg] at e6
                  clear hg
                  go_wp2_with fail
                  go_quiet (fail)
                  go_wp2
                  exact ⟨⟨j + 1, _, by omega, by go_num, rfl⟩, by simp [intOf]; omega⟩
                · go_wp2_with fail
                  go_quiet (fail)
                  go_wp2
                  exact ⟨⟨j + 1, _, by omega, by go_num, rfl⟩, by simp [intOf]; omega⟩
              · have hjm' : ¬ (j : Int) < (m : Int) := by omega
                go_wp2_with fail
                exact ⟨⟨m + 1, by omega, by go_num, below_drewN HBX.out _, HOK.out⟩, by simp [intOf]; omega⟩
          · have HNO := hid (whole_no hlt fun h => t4 (h.2.2.1 t3))
            rw [t3] at p6
            clear t3
            go_wp2_with fail
            go_ret
            exact ⟨false, rfl, by simpa using HNO.out, HBX.out⟩
        · have T3 := hid t3
          go_wp2_with fail
          go_loopw [6] (fun vj wy => ∃ j n : Nat, j ≤ m ∧ vj = .int .i64 j ∧ wy = wc.drewN n ∧ ∀ i, i < j → (hi : i < l.length) → l[i].group ≠ l[m + 1].group) (fun vj _ => m - (intOf vj).toNat)
          case atStart => exact ⟨0, 0, Nat.zero_le _, rfl, rfl, fun i hi => by omega⟩
          case round =>
            obtain ⟨j, n, hj, rfl, rfl, hN⟩ := hrel
            have HN := hid hN
            clear hN
            by_cases hjm : j < m
            · obtain ⟨b2, off2, hA3, hB2, e0, e1, e2, e3, e4, e5, e6⟩ := (HA.out.below HBX.out).eff (i := j) (show j < l.length by omega)
              cases hA3
              clear e0 e1 e2 e3 e4 e5
              have hjl : (j : Int) < (l.length : Int) := by omega
              have hjm' : (j : Int) < (m : Int) := by omega
              by_cases hg : l[j].group = l[m + 1].group
              · have HNO := hid (whole_no hlt fun h => h.2.2.2 T3.out j hjm hg)
                rw [hg] at e6
                clear hg
                go_wp2_with fail
                go_quiet (fail)
                go_wp2
                go_ret
                exact ⟨false, rfl, by simpa using HNO.out, below_drewN (below_drewN HBX.out _) _⟩
              · have HN2 := hid (fun i (hi : i < j + 1) (hil : i < l.length) => show l[i].group ≠ l[m + 1].group from by
                  by_cases e : i = j
                  · subst e; exact hg
                  · exact HN.out i (by omega) hil)
                go_wp2_with fail
                go_quiet (fail)
                go_wp2
                exact ⟨⟨j + 1, _, by omega, by go_num, rfl, HN2.out⟩, by simp [intOf]; omega⟩
            · have hjm' : ¬ (j : Int) < (m : Int) := by omega
              have HOK := hid (HTO.out.succ hlt ⟨by omega, by omega, fun h => absurd h T3.out, fun _ i hi => HN.out i (by omega) (by omega)⟩)
              go_wp2_with fail
              exact ⟨⟨m + 1, by omega, by go_num, below_drewN HBX.out _, HOK.out⟩, by simp [intOf]; omega⟩
    · have HALL := hid (HTO.out.all (show l.length ≤ m + 1 by omega))
      have k2 : ¬ (m : Int) + 1 < (l.length : Int) := by omega
      go_wp2_with fail
      go_ret
      exact ⟨true, rfl, by simpa using HALL.out, HB.out⟩
end Go.Proofs.Ythpegmeebhkhbaa
