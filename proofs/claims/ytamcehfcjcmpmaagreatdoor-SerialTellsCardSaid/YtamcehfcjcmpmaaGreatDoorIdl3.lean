/- The reference's answer to which calls are good. -/
import Derived.Test.YtamcehfcjcmpmaaGreatDoorIdl2
namespace Go.Proofs.YtamcehfcjcmpmaaGreatDoor
open Go.RowKit

/-- what is wrong with the shape of a call that stands in a group -/
def shE (x : Call0) : Int := if keyedB x.kind = true then (if x.key.toList.isEmpty = true then 1 else 0) else if x.kind = 4 ∨ x.kind = 5 ∨ x.kind = 6 ∨ x.kind = 8 then 0 else 1
theorem elemBad_of (x : Call0) : elemBad x = (!groupedB x.kind || decide (shE x ≠ 0)) := by
  unfold elemBad shE
  cases hg : groupedB x.kind with
  | false => rfl
  | true =>
    have : x.kind = 2 ∨ x.kind = 3 ∨ x.kind = 4 := by simpa [groupedB, or_assoc] using hg
    rcases this with h | h | h <;> (rw [h]; cases he : x.key.toList.isEmpty <;> simp [keyedB])
set_option maxHeartbeats 2000000 in
theorem refshape_elem (c : Call0) (w : World) :
    Calls Tryz.prog 52 #[.agg #[.int .i64 c.kind, .string c.key, .string c.val, .string c.to, .slice c.gA c.gn c.gc], .bool true] w fun e w' => e = .returned (.int .i64 (shE c)) ∧ Below w.heap.size w w' := by
  obtain ⟨k, key, val, to, gA, gn, gc⟩ := c
  simp only
  by_cases hk : k = 1 ∨ k = 2 ∨ k = 3
  · have hky : keyedB k = true := by simpa [keyedB, or_assoc] using hk
    cases hke : key.toList.isEmpty with
    | true =>
      have e : shE ⟨k, key, val, to, gA, gn, gc⟩ = 1 := by simp [shE, hky, hke]
      rw [e]
      clear e hky
      rcases hk with rfl | rfl | rfl
      all_goals
        go_enter Tryz.func52, Tryz.ntmps52
        go_wp2
        go_ret
        exact ⟨rfl, (by repeat (first | exact Below.refl _ _ | assumption | refine Below.drew ?_ | refine below_drewN ?_ _ | refine Below.alloc ?_ (by first | omega | (simp; done) | (simp; omega)) _ | refine Below.setCell ?_ (by first | omega | (simp; done) | (simp; omega)) _))⟩
    | false =>
      have e : shE ⟨k, key, val, to, gA, gn, gc⟩ = 0 := by simp [shE, hke, hky]
      rw [e]
      clear e hky
      rcases hk with rfl | rfl | rfl
      all_goals
        go_enter Tryz.func52, Tryz.ntmps52
        go_wp2
        go_ret
        exact ⟨rfl, (by repeat (first | exact Below.refl _ _ | assumption | refine Below.drew ?_ | refine below_drewN ?_ _ | refine Below.alloc ?_ (by first | omega | (simp; done) | (simp; omega)) _ | refine Below.setCell ?_ (by first | omega | (simp; done) | (simp; omega)) _))⟩
  · have hky : keyedB k = false := by simp [keyedB]; omega
    by_cases h4 : k = 4 ∨ k = 5 ∨ k = 6 ∨ k = 8
    · have e : shE ⟨k, key, val, to, gA, gn, gc⟩ = 0 := by simp [shE, hky]; omega
      rw [e]
      clear e hky hk
      rcases h4 with rfl | rfl | rfl | rfl
      all_goals
        go_enter Tryz.func52, Tryz.ntmps52
        go_wp2
        go_ret
        exact ⟨rfl, (by repeat (first | exact Below.refl _ _ | assumption | refine Below.drew ?_ | refine below_drewN ?_ _ | refine Below.alloc ?_ (by first | omega | (simp; done) | (simp; omega)) _ | refine Below.setCell ?_ (by first | omega | (simp; done) | (simp; omega)) _))⟩
    · have e : shE ⟨k, key, val, to, gA, gn, gc⟩ = 1 := by simp [shE, hky]; omega
      rw [e]
      clear e hky
      have n1 : (k == 1) = false := by simp; omega
      have n2 : (k == 2) = false := by simp; omega
      have n3 : (k == 3) = false := by simp; omega
      have n4 : (k == 4) = false := by simp; omega
      have n5 : (k == 5) = false := by simp; omega
      have n6 : (k == 6) = false := by simp; omega
      have n8 : (k == 8) = false := by simp; omega
      clear hk h4
      cases n7 : (k == 7) with
      | true =>
        go_enter Tryz.func52, Tryz.ntmps52
        go_wp2
        go_ret
        exact ⟨rfl, (by repeat (first | exact Below.refl _ _ | assumption | refine Below.drew ?_ | refine below_drewN ?_ _ | refine Below.alloc ?_ (by first | omega | (simp; done) | (simp; omega)) _ | refine Below.setCell ?_ (by first | omega | (simp; done) | (simp; omega)) _))⟩
      | false =>
        go_enter Tryz.func52, Tryz.ntmps52
        go_wp2
        go_ret
        exact ⟨rfl, (by repeat (first | exact Below.refl _ _ | assumption | refine Below.drew ?_ | refine below_drewN ?_ _ | refine Below.alloc ?_ (by first | omega | (simp; done) | (simp; omega)) _ | refine Below.setCell ?_ (by first | omega | (simp; done) | (simp; omega)) _))⟩

theorem elemOk_grouped {x : Call0} (h : elemBad x = false) : groupedB x.kind = true := by
  cases hg : groupedB x.kind with
  | true => rfl
  | false => simp [elemBad, hg] at h
theorem clash_of {x y : Call0} (hx : groupedB x.kind = true) (hy : groupedB y.kind = true) : clash x y = ((x.kind != 4) && (y.kind != 4) && (x.key.toList == y.key.toList)) := by
  have h1 : ∀ k : Int, groupedB k = true → keyedB k = (k != 4) := by
    intro k h
    have : k = 2 ∨ k = 3 ∨ k = 4 := by simpa [groupedB, or_assoc] using h
    rcases this with rfl | rfl | rfl <;> rfl
  rw [clash, h1 _ hx, h1 _ hy]
set_option maxRecDepth 100000 in
set_option maxHeartbeats 4000000 in
theorem refshape_group (g : List Call0) (A : Option Addr) (gc : Nat) (key val to : ByteArray) (w : World) (hA : Arr Call0.enc 5 w w.heap.size A g) (_hc : g.length ≤ gc) (_hm : gc ≤ 9223372036854775807) (h1 : 1 ≤ g.length) (h3 : g.length ≤ 3) :
    Calls Tryz.prog 52 #[.agg #[.int .i64 7, .string key, .string val, .string to, .slice A g.length gc], .bool false] w fun e w' => e = .returned (.int .i64 (if groupOk g = true then 0 else 1)) ∧ Below w.heap.size w w' := by
  have h1' : ((g.length : Int) < 1) = False := by simp; omega
  have h3' : ((3 : Int) < (g.length : Int)) = False := by simp; omega
  obtain ⟨R, hR⟩ : ∃ R : Int, R = if groupOk g = true then 0 else 1 := ⟨_, rfl⟩
  rw [← hR]
  have HR := hid hR
  clear hR
  go_enter Tryz.func52, Tryz.ntmps52
  go_wp2
  clear h1' h3'
  go_loopw [5] (fun i wr => ∃ k : Nat, k ≤ g.length ∧ i = .int .i64 k ∧ Below (w.heap.size + 1) (w.alloc (.cells #[.int .i64 7, .string key, .string val, .string to, .slice A g.length gc] 46)) wr ∧ okTo g k) (fun i _ => g.length - (intOf i).toNat)
  case atStart => exact ⟨0, Nat.zero_le _, rfl, Below.refl _ _, okTo_zero _⟩
  case round =>
    obtain ⟨k, hk, rfl, hb, hok⟩ := hrel
    have hbw : Below w.heap.size w wr := ((Below.refl _ w).alloc (Nat.le_refl _) _).trans (hb.mono (by simp))
    have hbs := new_size hb
    have e4 : wr.cell? ⟨w.heap.size, 4, none⟩ = some (.slice A g.length gc) := new_cell hb 4
    by_cases hlt : k < g.length
    · obtain ⟨b, off, rfl, hB, c0, c1, c2, c3, c4⟩ := (hA.below hbw).call0 hlt
      obtain ⟨wo, rfl⟩ : ∃ wo : World, wo = wr := ⟨_, rfl⟩
      have hbd := elemBad_of g[k]
      cases hgr : groupedB g[k].kind with
      | false =>
        obtain ⟨n2, n3, n4⟩ : (g[k].kind != 2) = true ∧ (g[k].kind != 3) = true ∧ (g[k].kind != 4) = true := by
          simp [groupedB] at hgr
          simp [hgr]
        have hbad : elemBad g[k] = true := by rw [hbd, hgr]; rfl
        clear hbd hgr
        go_wp2
        go_ret
        exact ⟨ret_int (by rw [HR.out, groupOk_bad hlt hbad]; rfl), hbw⟩
      | true =>
        have hk3 : g[k].kind = 2 ∨ g[k].kind = 3 ∨ g[k].kind = 4 := by simpa [groupedB, or_assoc] using hgr
        cases hbad : elemBad g[k] with
        | true =>
          have hs : (shE g[k] != 0) = true := by rw [hbad, hgr] at hbd; simpa using hbd.symm
          have HB := hid hbad
          clear hbd hgr hbad
          rcases hk3 with h | h | h
          · have n2 : (g[k].kind != 2) = false := by simp [h]
            clear h
            go_wp2_with (go_at_call 52; refine (refshape_elem g[k] _).mono ?_; rintro e w' ⟨rfl, hb5⟩)
            go_ret
            exact ⟨ret_int (by rw [HR.out, groupOk_bad hlt HB.out]; rfl), hbw.trans (hb5.mono (by omega))⟩
          · have n2 : (g[k].kind != 2) = true := by simp [h]
            have n3 : (g[k].kind != 3) = false := by simp [h]
            clear h
            go_wp2_with (go_at_call 52; refine (refshape_elem g[k] _).mono ?_; rintro e w' ⟨rfl, hb5⟩)
            go_ret
            exact ⟨ret_int (by rw [HR.out, groupOk_bad hlt HB.out]; rfl), hbw.trans (hb5.mono (by omega))⟩
          · have n2 : (g[k].kind != 2) = true := by simp [h]
            have n3 : (g[k].kind != 3) = true := by simp [h]
            have n4 : (g[k].kind != 4) = false := by simp [h]
            clear h
            go_wp2_with (go_at_call 52; refine (refshape_elem g[k] _).mono ?_; rintro e w' ⟨rfl, hb5⟩)
            go_ret
            exact ⟨ret_int (by rw [HR.out, groupOk_bad hlt HB.out]; rfl), hbw.trans (hb5.mono (by omega))⟩
        | false =>
          have hs : (shE g[k] != 0) = false := by rw [hbad, hgr] at hbd; simpa using hbd.symm
          have HB := hid hbad
          clear hbd hgr hbad
          have hgk : groupedB g[k].kind = true := elemOk_grouped HB.out
          rcases hk3 with h | h | h
          · have n2 : (g[k].kind != 2) = false := by simp [h]
            have n4 : (g[k].kind != 4) = true := by simp [h]
            clear h
            go_wp2_with (go_at_call 52; refine (refshape_elem g[k] _).mono ?_; rintro e w' ⟨rfl, hb5⟩)
            have hb6 : Below (w.heap.size + 1) (w.alloc (.cells #[.int .i64 7, .string key, .string val, .string to, .slice (some ⟨b, off, none⟩) g.length gc] 46)) w' := hb.trans (hb5.mono (by omega))
            clear hb5 hs
            clear e4 c0 c1 c2 c3 c4
            go_loopw [7] (fun i wr => ∃ m : Nat, m ≤ k ∧ i = .int .i64 m ∧ Below (w.heap.size + 1) (w.alloc (.cells #[.int .i64 7, .string key, .string val, .string to, .slice (some ⟨b, off, none⟩) g.length gc] 46)) wr ∧ okAt g k m) (fun i _ => k - (intOf i).toNat)
            case atStart => exact ⟨0, Nat.zero_le _, rfl, hb6, okAt_zero _ _⟩
            case round =>
              obtain ⟨m, hmk, rfl, hb2, hat⟩ := hrel
              have hb4 : Below w.heap.size w wr := ((Below.refl _ w).alloc (Nat.le_refl _) _).trans (hb2.mono (by simp))
              by_cases hlt2 : m < k
              · obtain ⟨b', off', hbo, hB', d0, d1, d2, d3, d4⟩ := (hA.below hb4).call0 (show m < g.length by omega)
                obtain ⟨b2, off2, hbo2, hB2, c0, c1, c2, c3, c4⟩ := (hA.below hb4).call0 hlt
                have f4 : wr.cell? ⟨w.heap.size, 4, none⟩ = some (.slice (some ⟨b, off, none⟩) g.length gc) := new_cell hb2 4
                obtain ⟨rfl, rfl⟩ : b = b' ∧ off = off' := by simpa using hbo
                obtain ⟨rfl, rfl⟩ : b = b2 ∧ off = off2 := by simpa using hbo2
                clear hbo hbo2 c2 c3 c4 d2 d3 d4
                have i1 : (k : Int) < (g.length : Int) := by omega
                have i2 : (m : Int) < (g.length : Int) := by omega
                have i3 : (0 : Int) ≤ (k : Int) := by omega
                have i4 : (0 : Int) ≤ (m : Int) := by omega
                have hcl := clash_of hgk (elemOk_grouped (hok m (by omega) hlt2).1)
                cases hm4 : (g[m].kind != 4) with
                | false =>
                  have hc0 : clash g[k] g[m] = false := by rw [hcl, hm4]; simp
                  clear hcl
                  go_wp2
                  go_quiet (fail)
                  go_wp2
                  go_roundw
                  case rel => exact ⟨m + 1, by omega, by go_num, (by repeat (first | exact Below.refl _ _ | assumption | refine Below.drew ?_ | refine below_drewN ?_ _ | refine Below.alloc ?_ (by first | omega | (simp; done) | (simp; omega)) _ | refine Below.setCell ?_ (by first | omega | (simp; done) | (simp; omega)) _)), okAt_succ hlt hlt2 hat hc0⟩
                  case measure => simp [intOf]; omega
                | true =>
                  cases hke : (g[k].key.toList == g[m].key.toList) with
                  | false =>
                    have hc0 : clash g[k] g[m] = false := by rw [hcl, hke]; simp
                    clear hcl
                    go_wp2
                    go_quiet (fail)
                    go_wp2
                    go_roundw
                    case rel => exact ⟨m + 1, by omega, by go_num, (by repeat (first | exact Below.refl _ _ | assumption | refine Below.drew ?_ | refine below_drewN ?_ _ | refine Below.alloc ?_ (by first | omega | (simp; done) | (simp; omega)) _ | refine Below.setCell ?_ (by first | omega | (simp; done) | (simp; omega)) _)), okAt_succ hlt hlt2 hat hc0⟩
                    case measure => simp [intOf]; omega
                  | true =>
                    have hc0 : clash g[k] g[m] = true := by rw [hcl, hke, hm4, n4]; rfl
                    clear hcl
                    go_wp2
                    go_quiet (fail)
                    go_wp2
                    go_ret
                    exact ⟨ret_int (by rw [HR.out, groupOk_clash hlt hlt2 hc0]; rfl), (by repeat (first | exact Below.refl _ _ | assumption | refine Below.drew ?_ | refine below_drewN ?_ _ | refine Below.alloc ?_ (by first | omega | (simp; done) | (simp; omega)) _ | refine Below.setCell ?_ (by first | omega | (simp; done) | (simp; omega)) _))⟩
              · go_wp2
                go_roundw
                case rel =>
                  obtain rfl : m = k := by omega
                  exact ⟨m + 1, by omega, by go_num, hb2, okTo_succ hlt hok HB.out hat⟩
                case measure => simp [intOf]; omega
          · have n2 : (g[k].kind != 2) = true := by simp [h]
            have n3 : (g[k].kind != 3) = false := by simp [h]
            have n4 : (g[k].kind != 4) = true := by simp [h]
            clear h
            go_wp2_with (go_at_call 52; refine (refshape_elem g[k] _).mono ?_; rintro e w' ⟨rfl, hb5⟩)
            have hb6 : Below (w.heap.size + 1) (w.alloc (.cells #[.int .i64 7, .string key, .string val, .string to, .slice (some ⟨b, off, none⟩) g.length gc] 46)) w' := hb.trans (hb5.mono (by omega))
            clear hb5 hs
            clear e4 c0 c1 c2 c3 c4
            go_loopw [7] (fun i wr => ∃ m : Nat, m ≤ k ∧ i = .int .i64 m ∧ Below (w.heap.size + 1) (w.alloc (.cells #[.int .i64 7, .string key, .string val, .string to, .slice (some ⟨b, off, none⟩) g.length gc] 46)) wr ∧ okAt g k m) (fun i _ => k - (intOf i).toNat)
            case atStart => exact ⟨0, Nat.zero_le _, rfl, hb6, okAt_zero _ _⟩
            case round =>
              obtain ⟨m, hmk, rfl, hb2, hat⟩ := hrel
              have hb4 : Below w.heap.size w wr := ((Below.refl _ w).alloc (Nat.le_refl _) _).trans (hb2.mono (by simp))
              by_cases hlt2 : m < k
              · obtain ⟨b', off', hbo, hB', d0, d1, d2, d3, d4⟩ := (hA.below hb4).call0 (show m < g.length by omega)
                obtain ⟨b2, off2, hbo2, hB2, c0, c1, c2, c3, c4⟩ := (hA.below hb4).call0 hlt
                have f4 : wr.cell? ⟨w.heap.size, 4, none⟩ = some (.slice (some ⟨b, off, none⟩) g.length gc) := new_cell hb2 4
                obtain ⟨rfl, rfl⟩ : b = b' ∧ off = off' := by simpa using hbo
                obtain ⟨rfl, rfl⟩ : b = b2 ∧ off = off2 := by simpa using hbo2
                clear hbo hbo2 c2 c3 c4 d2 d3 d4
                have i1 : (k : Int) < (g.length : Int) := by omega
                have i2 : (m : Int) < (g.length : Int) := by omega
                have i3 : (0 : Int) ≤ (k : Int) := by omega
                have i4 : (0 : Int) ≤ (m : Int) := by omega
                have hcl := clash_of hgk (elemOk_grouped (hok m (by omega) hlt2).1)
                cases hm4 : (g[m].kind != 4) with
                | false =>
                  have hc0 : clash g[k] g[m] = false := by rw [hcl, hm4]; simp
                  clear hcl
                  go_wp2
                  go_quiet (fail)
                  go_wp2
                  go_roundw
                  case rel => exact ⟨m + 1, by omega, by go_num, (by repeat (first | exact Below.refl _ _ | assumption | refine Below.drew ?_ | refine below_drewN ?_ _ | refine Below.alloc ?_ (by first | omega | (simp; done) | (simp; omega)) _ | refine Below.setCell ?_ (by first | omega | (simp; done) | (simp; omega)) _)), okAt_succ hlt hlt2 hat hc0⟩
                  case measure => simp [intOf]; omega
                | true =>
                  cases hke : (g[k].key.toList == g[m].key.toList) with
                  | false =>
                    have hc0 : clash g[k] g[m] = false := by rw [hcl, hke]; simp
                    clear hcl
                    go_wp2
                    go_quiet (fail)
                    go_wp2
                    go_roundw
                    case rel => exact ⟨m + 1, by omega, by go_num, (by repeat (first | exact Below.refl _ _ | assumption | refine Below.drew ?_ | refine below_drewN ?_ _ | refine Below.alloc ?_ (by first | omega | (simp; done) | (simp; omega)) _ | refine Below.setCell ?_ (by first | omega | (simp; done) | (simp; omega)) _)), okAt_succ hlt hlt2 hat hc0⟩
                    case measure => simp [intOf]; omega
                  | true =>
                    have hc0 : clash g[k] g[m] = true := by rw [hcl, hke, hm4, n4]; rfl
                    clear hcl
                    go_wp2
                    go_quiet (fail)
                    go_wp2
                    go_ret
                    exact ⟨ret_int (by rw [HR.out, groupOk_clash hlt hlt2 hc0]; rfl), (by repeat (first | exact Below.refl _ _ | assumption | refine Below.drew ?_ | refine below_drewN ?_ _ | refine Below.alloc ?_ (by first | omega | (simp; done) | (simp; omega)) _ | refine Below.setCell ?_ (by first | omega | (simp; done) | (simp; omega)) _))⟩
              · go_wp2
                go_roundw
                case rel =>
                  obtain rfl : m = k := by omega
                  exact ⟨m + 1, by omega, by go_num, hb2, okTo_succ hlt hok HB.out hat⟩
                case measure => simp [intOf]; omega
          · have n2 : (g[k].kind != 2) = true := by simp [h]
            have n3 : (g[k].kind != 3) = true := by simp [h]
            have n4 : (g[k].kind != 4) = false := by simp [h]
            clear h
            go_wp2_with (go_at_call 52; refine (refshape_elem g[k] _).mono ?_; rintro e w' ⟨rfl, hb5⟩)
            have hb6 : Below (w.heap.size + 1) (w.alloc (.cells #[.int .i64 7, .string key, .string val, .string to, .slice (some ⟨b, off, none⟩) g.length gc] 46)) w' := hb.trans (hb5.mono (by omega))
            clear hb5 hs
            clear e4 c0 c1 c2 c3 c4
            go_loopw [7] (fun i wr => ∃ m : Nat, m ≤ k ∧ i = .int .i64 m ∧ Below (w.heap.size + 1) (w.alloc (.cells #[.int .i64 7, .string key, .string val, .string to, .slice (some ⟨b, off, none⟩) g.length gc] 46)) wr ∧ okAt g k m) (fun i _ => k - (intOf i).toNat)
            case atStart => exact ⟨0, Nat.zero_le _, rfl, hb6, okAt_zero _ _⟩
            case round =>
              obtain ⟨m, hmk, rfl, hb2, hat⟩ := hrel
              have hb4 : Below w.heap.size w wr := ((Below.refl _ w).alloc (Nat.le_refl _) _).trans (hb2.mono (by simp))
              by_cases hlt2 : m < k
              · obtain ⟨b', off', hbo, hB', d0, d1, d2, d3, d4⟩ := (hA.below hb4).call0 (show m < g.length by omega)
                obtain ⟨b2, off2, hbo2, hB2, c0, c1, c2, c3, c4⟩ := (hA.below hb4).call0 hlt
                have f4 : wr.cell? ⟨w.heap.size, 4, none⟩ = some (.slice (some ⟨b, off, none⟩) g.length gc) := new_cell hb2 4
                obtain ⟨rfl, rfl⟩ : b = b' ∧ off = off' := by simpa using hbo
                obtain ⟨rfl, rfl⟩ : b = b2 ∧ off = off2 := by simpa using hbo2
                clear hbo hbo2 c2 c3 c4 d2 d3 d4
                have i1 : (k : Int) < (g.length : Int) := by omega
                have i2 : (m : Int) < (g.length : Int) := by omega
                have i3 : (0 : Int) ≤ (k : Int) := by omega
                have i4 : (0 : Int) ≤ (m : Int) := by omega
                have hcl := clash_of hgk (elemOk_grouped (hok m (by omega) hlt2).1)
                have hc0 : clash g[k] g[m] = false := by rw [hcl, n4]; simp
                clear hcl
                go_wp2
                go_quiet (fail)
                go_wp2
                go_roundw
                case rel => exact ⟨m + 1, by omega, by go_num, (by repeat (first | exact Below.refl _ _ | assumption | refine Below.drew ?_ | refine below_drewN ?_ _ | refine Below.alloc ?_ (by first | omega | (simp; done) | (simp; omega)) _ | refine Below.setCell ?_ (by first | omega | (simp; done) | (simp; omega)) _)), okAt_succ hlt hlt2 hat hc0⟩
                case measure => simp [intOf]; omega
              · go_wp2
                go_roundw
                case rel =>
                  obtain rfl : m = k := by omega
                  exact ⟨m + 1, by omega, by go_num, hb2, okTo_succ hlt hok HB.out hat⟩
                case measure => simp [intOf]; omega
    · go_wp2
      go_ret
      exact ⟨ret_int (by rw [HR.out, groupOk_yes (by omega) hok]; rfl), hbw⟩

set_option maxHeartbeats 2000000 in
set_option maxRecDepth 100000 in
theorem refshape_any (c : Call0) (g : List Call0) (w : World) (h : CallIn w w.heap.size c g) :
    Calls Tryz.prog 52 #[.agg #[.int .i64 c.kind, .string c.key, .string c.val, .string c.to, .slice c.gA c.gn c.gc], .bool false] w fun e w' => e = .returned (.int .i64 (if shapeB c g = true then 0 else 1)) ∧ Below w.heap.size w w' := by
  obtain ⟨hA, hn, hc, hm⟩ := h
  obtain ⟨k, key, val, to, gA, gn, gc⟩ := c
  simp only at hA hn hc hm ⊢
  subst hn
  by_cases h7 : k = 7
  · subst h7
    have hk7 : keyedB 7 = false := by decide +kernel
    by_cases hg1 : g.length < 1
    · have e : shapeB ⟨7, key, val, to, gA, g.length, gc⟩ g = false := by simp [shapeB, hg1]
      rw [e]
      clear e hk7
      have hg1' : (g.length : Int) < 1 := by omega
      go_enter Tryz.func52, Tryz.ntmps52
      go_wp2
      go_ret
      exact ⟨rfl, (by repeat (first | exact Below.refl _ _ | assumption | refine Below.drew ?_ | refine below_drewN ?_ _ | refine Below.alloc ?_ (by first | omega | (simp; done) | (simp; omega)) _ | refine Below.setCell ?_ (by first | omega | (simp; done) | (simp; omega)) _))⟩
    by_cases hg3 : 3 < g.length
    · have e : shapeB ⟨7, key, val, to, gA, g.length, gc⟩ g = false := by simp [shapeB, hg3]
      rw [e]
      clear e hk7
      have hg3' : (3 : Int) < (g.length : Int) := by omega
      go_enter Tryz.func52, Tryz.ntmps52
      go_wp2
      go_ret
      exact ⟨rfl, (by repeat (first | exact Below.refl _ _ | assumption | refine Below.drew ?_ | refine below_drewN ?_ _ | refine Below.alloc ?_ (by first | omega | (simp; done) | (simp; omega)) _ | refine Below.setCell ?_ (by first | omega | (simp; done) | (simp; omega)) _))⟩
    have e : shapeB ⟨7, key, val, to, gA, g.length, gc⟩ g = groupOk g := by simp [shapeB, hg1, hg3, hk7]
    rw [e]
    exact refshape_group g gA gc key val to w hA hc hm (by omega) (by omega)
  clear hA hc hm
  by_cases hk : k = 1 ∨ k = 2 ∨ k = 3
  · have hky : keyedB k = true := by simpa [keyedB, or_assoc] using hk
    cases hke : key.toList.isEmpty with
    | true =>
      have e : shapeB ⟨k, key, val, to, gA, g.length, gc⟩ g = false := by simp [shapeB, hky, hke]
      rw [e]
      clear e hky h7
      rcases hk with rfl | rfl | rfl
      all_goals
        go_enter Tryz.func52, Tryz.ntmps52
        go_wp2
        go_ret
        exact ⟨rfl, (by repeat (first | exact Below.refl _ _ | assumption | refine Below.drew ?_ | refine below_drewN ?_ _ | refine Below.alloc ?_ (by first | omega | (simp; done) | (simp; omega)) _ | refine Below.setCell ?_ (by first | omega | (simp; done) | (simp; omega)) _))⟩
    | false =>
      have e : shapeB ⟨k, key, val, to, gA, g.length, gc⟩ g = true := by
        have h1 : ¬ k < 1 := by omega
        have h8 : ¬ 8 < k := by omega
        simp [shapeB, hke, h7, h1, h8]
      rw [e]
      clear e hky h7
      rcases hk with rfl | rfl | rfl
      all_goals
        go_enter Tryz.func52, Tryz.ntmps52
        go_wp2
        go_ret
        exact ⟨rfl, (by repeat (first | exact Below.refl _ _ | assumption | refine Below.drew ?_ | refine below_drewN ?_ _ | refine Below.alloc ?_ (by first | omega | (simp; done) | (simp; omega)) _ | refine Below.setCell ?_ (by first | omega | (simp; done) | (simp; omega)) _))⟩
  · have hky : keyedB k = false := by simp [keyedB]; omega
    by_cases h4 : k = 4 ∨ k = 5 ∨ k = 6 ∨ k = 8
    · have e : shapeB ⟨k, key, val, to, gA, g.length, gc⟩ g = true := by
        have h1 : ¬ k < 1 := by omega
        have h8 : ¬ 8 < k := by omega
        simp [shapeB, hky, h7, h1, h8]
      rw [e]
      clear e hky hk h7
      rcases h4 with rfl | rfl | rfl | rfl
      all_goals
        go_enter Tryz.func52, Tryz.ntmps52
        go_wp2
        go_ret
        exact ⟨rfl, (by repeat (first | exact Below.refl _ _ | assumption | refine Below.drew ?_ | refine below_drewN ?_ _ | refine Below.alloc ?_ (by first | omega | (simp; done) | (simp; omega)) _ | refine Below.setCell ?_ (by first | omega | (simp; done) | (simp; omega)) _))⟩
    · have e : shapeB ⟨k, key, val, to, gA, g.length, gc⟩ g = false := by
        have h1 : k < 1 ∨ 8 < k := by omega
        simp [shapeB, h1]
      rw [e]
      clear e hky
      have n1 : (k == 1) = false := by simp; omega
      have n2 : (k == 2) = false := by simp; omega
      have n3 : (k == 3) = false := by simp; omega
      have n4 : (k == 4) = false := by simp; omega
      have n5 : (k == 5) = false := by simp; omega
      have n6 : (k == 6) = false := by simp; omega
      have n7 : (k == 7) = false := by simp; omega
      have n8 : (k == 8) = false := by simp; omega
      clear hk h4 h7
      go_enter Tryz.func52, Tryz.ntmps52
      go_wp2
      go_ret
      exact ⟨rfl, (by repeat (first | exact Below.refl _ _ | assumption | refine Below.drew ?_ | refine below_drewN ?_ _ | refine Below.alloc ?_ (by first | omega | (simp; done) | (simp; omega)) _ | refine Below.setCell ?_ (by first | omega | (simp; done) | (simp; omega)) _))⟩
end Go.Proofs.YtamcehfcjcmpmaaGreatDoor
