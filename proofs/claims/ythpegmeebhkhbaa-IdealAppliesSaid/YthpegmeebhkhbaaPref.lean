/- fuseelaw26.few; is a store what effects make, by the program and by the reference. -/
import Derived.Test.YthpegmeebhkhbaaRepI
import Derived.Test.YthpegmeebhkhbaaSameG
namespace Go.Proofs.Ythpegmeebhkhbaa
open Go.RowKit

def GivesFew (l : List Eff) (w : World) (e : Ending) (w' : World) : Prop := ∃ r, e = .returned (.bool r) ∧ Below w.heap.size w w' ∧ (r = true → l.length ≤ 60)
set_option maxHeartbeats 4000000 in
set_option maxRecDepth 100000 in
theorem few_any (l : List Eff) (A : Option Addr) (c : Nat) (s : Shelf) (PA : Option Addr) (pc : Nat) (QA : Option Addr) (qc : Nat) (w : World) (hA : Arr Eff.enc 7 w w.heap.size A l) (_hc : l.length ≤ c) (_hm : c ≤ 9223372036854775807) (h : ShIn w w.heap.size PA pc QA qc s) :
    Calls Try.prog 24 #[.slice A l.length c, .agg #[.slice PA s.pairs.length pc, .slice QA s.queue.length qc]] w (GivesFew l w) := by
  have HA := hid hA
  have hpl := h.plen
  have hpm := h.pmax
  have hql := h.qlen
  have hqm := h.qmax
  clear h hA
  by_cases hsm : l.length ≤ 60 ∧ s.pairs.length ≤ 60 ∧ s.queue.length ≤ 60
  case neg =>
    go_enter Try.func24, Try.ntmps24
    go_wp2_with fail
    all_goals first | (exfalso; omega) | (go_ret; exact ⟨false, rfl, (by repeat (first | exact Below.refl _ _ | assumption | refine Below.drew ?_ | refine below_drewN ?_ _ | refine Below.alloc ?_ (by first | omega | (simp; done) | (simp; omega)) _ | refine Below.setCell ?_ (by first | omega | (simp; done) | (simp; omega)) _)), fun h => by cases h⟩)
  obtain ⟨sm1, sm2, sm3⟩ := hsm
  go_enter Try.func24, Try.ntmps24
  go_wp2_with fail
  go_loop [5] (fun vi => ∃ k : Nat, k ≤ l.length ∧ vi = .int .i64 k) (fun vi => l.length - (intOf vi).toNat)
  case atStart => exact ⟨0, Nat.zero_le _, rfl⟩
  case round =>
    obtain ⟨k, hkl, rfl⟩ := hrel
    by_cases hlt : k < l.length
    · obtain ⟨b, off, rfl, hB, k0, k1, k2, k3, k4, k5, k6⟩ := (HA.out.below (show Below w.heap.size w (w.alloc (.cells #[.slice PA s.pairs.length pc, .slice QA s.queue.length qc] 41)) from (by repeat (first | exact Below.refl _ _ | assumption | refine Below.drew ?_ | refine below_drewN ?_ _ | refine Below.alloc ?_ (by first | omega | (simp; done) | (simp; omega)) _ | refine Below.setCell ?_ (by first | omega | (simp; done) | (simp; omega)) _)))).eff hlt
      clear k0 k3 k4 k5 k6
      by_cases t1 : (600 : Int) < (l[k].key.size : Int)
      · go_wp2_with fail
        go_ret
        exact ⟨false, rfl, (by repeat (first | exact Below.refl _ _ | assumption | refine Below.drew ?_ | refine below_drewN ?_ _ | refine Below.alloc ?_ (by first | omega | (simp; done) | (simp; omega)) _ | refine Below.setCell ?_ (by first | omega | (simp; done) | (simp; omega)) _)), fun h => by cases h⟩
      · by_cases t2 : (600 : Int) < (l[k].val.size : Int)
        · go_wp2_with fail
          go_ret
          exact ⟨false, rfl, (by repeat (first | exact Below.refl _ _ | assumption | refine Below.drew ?_ | refine below_drewN ?_ _ | refine Below.alloc ?_ (by first | omega | (simp; done) | (simp; omega)) _ | refine Below.setCell ?_ (by first | omega | (simp; done) | (simp; omega)) _)), fun h => by cases h⟩
        · go_wp2_with fail
          exact ⟨⟨k + 1, by omega, by go_num⟩, by simp [intOf]; omega⟩
    · go_wp2_with fail
      go_ret
      exact ⟨true, rfl, (by repeat (first | exact Below.refl _ _ | assumption | refine Below.drew ?_ | refine below_drewN ?_ _ | refine Below.alloc ?_ (by first | omega | (simp; done) | (simp; omega)) _ | refine Below.setCell ?_ (by first | omega | (simp; done) | (simp; omega)) _)), fun _ => sm1⟩

theorem sameS_len {s t : Shelf} (h : ¬ (s.pairs.length = t.pairs.length ∧ s.queue.length = t.queue.length)) : sameS s t = false := by
  cases e : sameS s t with
  | false => rfl
  | true => exact absurd (by rw [sameS_iff.1 e]; exact ⟨rfl, rfl⟩) h
theorem sameS_p {s t : Shelf} (h : s.pairs ≠ t.pairs) : sameS s t = false := by simp [sameS, h]
theorem sameS_q {s t : Shelf} (h : s.queue ≠ t.queue) : sameS s t = false := by simp [sameS, h]
theorem sameS_yes {s t : Shelf} (h : s.pairs = t.pairs) (h' : s.queue = t.queue) : sameS s t = true := by simp [sameS, h, h']
set_option maxHeartbeats 4000000 in
set_option maxRecDepth 100000 in
theorem refsame_any (s t : Shelf) (PA : Option Addr) (pc : Nat) (QA : Option Addr) (qc : Nat) (PB : Option Addr) (pd : Nat) (QB : Option Addr) (qd : Nat) (w : World) (h : ShIn w w.heap.size PA pc QA qc s) (h' : ShIn w w.heap.size PB pd QB qd t) :
    Calls Try.prog 57 #[.agg #[.slice PA s.pairs.length pc, .slice QA s.queue.length qc], .agg #[.slice PB t.pairs.length pd, .slice QB t.queue.length qd]] w fun e w' => e = .returned (.bool (sameS s t)) ∧ Below w.heap.size w w' := by
  have H := hid h
  have H' := hid h'
  have hpl := h.plen
  have hpm := h.pmax
  have hql := h.qlen
  have hqm := h.qmax
  have hpl' := h'.plen
  have hpm' := h'.pmax
  have hql' := h'.qlen
  have hqm' := h'.qmax
  clear h h'
  by_cases hlen : s.pairs.length = t.pairs.length ∧ s.queue.length = t.queue.length
  case neg =>
    rw [sameS_len hlen]
    by_cases h1 : s.pairs.length = t.pairs.length
    · have h2 : ¬ s.queue.length = t.queue.length := fun h => hlen ⟨h1, h⟩
      have b1 : (((s.pairs.length : Nat) : Int) != ((t.pairs.length : Nat) : Int)) = false := by simp [h1]
      have b2 : (((s.queue.length : Nat) : Int) != ((t.queue.length : Nat) : Int)) = true := by rw [bne_iff_ne]; omega
      clear h1 h2 hlen
      go_enter Try.func57, Try.ntmps57
      go_wp2
      go_ret
      exact ⟨rfl, (by repeat (first | exact Below.refl _ _ | assumption | refine Below.drew ?_ | refine below_drewN ?_ _ | refine Below.alloc ?_ (by first | omega | (simp; done) | (simp; omega)) _ | refine Below.setCell ?_ (by first | omega | (simp; done) | (simp; omega)) _))⟩
    · have b1 : (((s.pairs.length : Nat) : Int) != ((t.pairs.length : Nat) : Int)) = true := by rw [bne_iff_ne]; omega
      clear h1 hlen
      go_enter Try.func57, Try.ntmps57
      go_wp2
      go_ret
      exact ⟨rfl, (by repeat (first | exact Below.refl _ _ | assumption | refine Below.drew ?_ | refine below_drewN ?_ _ | refine Below.alloc ?_ (by first | omega | (simp; done) | (simp; omega)) _ | refine Below.setCell ?_ (by first | omega | (simp; done) | (simp; omega)) _))⟩
  obtain ⟨hp, hq⟩ := hlen
  have b1 : (((s.pairs.length : Nat) : Int) != ((t.pairs.length : Nat) : Int)) = false := by simp [hp]
  have b2 : (((s.queue.length : Nat) : Int) != ((t.queue.length : Nat) : Int)) = false := by simp [hq]
  have HP := hid hp
  have HQ := hid hq
  have hp1 : s.pairs.length ≤ t.pairs.length := by omega
  have hp2 : t.pairs.length ≤ s.pairs.length := by omega
  have hq1 : s.queue.length ≤ t.queue.length := by omega
  have hq2 : t.queue.length ≤ s.queue.length := by omega
  clear hp hq
  go_enter Try.func57, Try.ntmps57
  go_wp2_with fail
  go_loopw [5] (fun i wr => ∃ k : Nat, k ≤ s.pairs.length ∧ i = .int .i64 k ∧ Below (w.heap.size + 2) ((w.alloc (.cells #[.slice PA s.pairs.length pc, .slice QA s.queue.length qc] 41)).alloc (.cells #[.slice PB t.pairs.length pd, .slice QB t.queue.length qd] 41)) wr ∧ s.pairs.take k = t.pairs.take k) (fun i _ => s.pairs.length - (intOf i).toNat)
  case atStart => exact ⟨0, Nat.zero_le _, rfl, Below.refl _ _, rfl⟩
  case round =>
    obtain ⟨k, hkl, rfl, hb, hpre⟩ := hrel
    have hw : Below w.heap.size w _ := Below.trans (by repeat (first | exact Below.refl _ _ | assumption | refine Below.drew ?_ | refine below_drewN ?_ _ | refine Below.alloc ?_ (by first | omega | (simp; done) | (simp; omega)) _ | refine Below.setCell ?_ (by first | omega | (simp; done) | (simp; omega)) _)) (hb.mono (show w.heap.size ≤ _ from (by first | omega | (simp; done) | (simp; omega))))
    have s0 := (hb.cell (p := ⟨w.heap.size, 0, none⟩) (by simp)).trans (show _ = some (Value.slice PA s.pairs.length pc) from (by simp [go_sem]))
    have s1 := (hb.cell (p := ⟨w.heap.size, 1, none⟩) (by simp)).trans (show _ = some (Value.slice QA s.queue.length qc) from (by simp [go_sem]))
    have u0 := (hb.cell (p := ⟨w.heap.size + 1, 0, none⟩) (by simp)).trans (show _ = some (Value.slice PB t.pairs.length pd) from (by simp [go_sem]))
    have u1 := (hb.cell (p := ⟨w.heap.size + 1, 1, none⟩) (by simp)).trans (show _ = some (Value.slice QB t.queue.length qd) from (by simp [go_sem]))
    have HPre := hid hpre
    clear hpre
    by_cases hlt : k < s.pairs.length
    · have hlt' : k < t.pairs.length := by omega
      obtain ⟨b, off, rfl, hB, c0, c1⟩ := (H.out.pairs.below hw).pair hlt
      obtain ⟨b', off', rfl, hB', c0', c1'⟩ := (H'.out.pairs.below hw).pair hlt'
      by_cases he : s.pairs[k] = t.pairs[k]
      · have HS := hid (pre_succ hlt hlt' HPre.out he)
        rw [he] at c0 c1
        clear he
        go_wp2_with fail
        go_quiet (fail)
        go_wp2
        exact ⟨⟨k + 1, by omega, by go_num, below_drewN hb _, HS.out⟩, by simp [intOf]; omega⟩
      · have HD := hid (sameS_p (s := s) (t := t) fun e => he (by simp [e]))
        by_cases hk : s.pairs[k].key = t.pairs[k].key
        · have hv : (s.pairs[k].val.toList == t.pairs[k].val.toList) = false := by
            rw [beq_eq_false_iff_ne]
            intro e
            exact he (by rw [show s.pairs[k] = ⟨s.pairs[k].key, s.pairs[k].val⟩ from rfl, toList_inj e, hk])
          rw [hk] at c0
          clear he hk
          go_wp2_with fail
          go_quiet (fail)
          go_wp2
          go_ret
          exact ⟨by rw [HD.out]; rfl, below_drewN hw _⟩
        · have hv : (s.pairs[k].key.toList == t.pairs[k].key.toList) = false := by
            rw [beq_eq_false_iff_ne]
            exact fun e => hk (toList_inj e)
          clear he hk
          go_wp2_with fail
          go_quiet (fail)
          go_wp2
          go_ret
          exact ⟨by rw [HD.out]; rfl, below_drewN hw _⟩
    · have HE := hid (pre_all HP.out (by omega) HPre.out)
      go_wp2_with fail
      clear HPre hlt hkl
      clear s0 s1 u0 u1
      go_loopw [6] (fun i wr => ∃ k : Nat, k ≤ s.queue.length ∧ i = .int .i64 k ∧ Below (w.heap.size + 2) ((w.alloc (.cells #[.slice PA s.pairs.length pc, .slice QA s.queue.length qc] 41)).alloc (.cells #[.slice PB t.pairs.length pd, .slice QB t.queue.length qd] 41)) wr ∧ s.queue.take k = t.queue.take k) (fun i _ => s.queue.length - (intOf i).toNat)
      case atStart => exact ⟨0, Nat.zero_le _, rfl, hb, rfl⟩
      case round =>
        clear hb hw
        obtain ⟨k, hkl, rfl, hb, hpre⟩ := hrel
        have hw : Below w.heap.size w _ := Below.trans (by repeat (first | exact Below.refl _ _ | assumption | refine Below.drew ?_ | refine below_drewN ?_ _ | refine Below.alloc ?_ (by first | omega | (simp; done) | (simp; omega)) _ | refine Below.setCell ?_ (by first | omega | (simp; done) | (simp; omega)) _)) (hb.mono (show w.heap.size ≤ _ from (by first | omega | (simp; done) | (simp; omega))))
        have s0 := (hb.cell (p := ⟨w.heap.size, 0, none⟩) (by simp)).trans (show _ = some (Value.slice PA s.pairs.length pc) from (by simp [go_sem]))
        have s1 := (hb.cell (p := ⟨w.heap.size, 1, none⟩) (by simp)).trans (show _ = some (Value.slice QA s.queue.length qc) from (by simp [go_sem]))
        have u0 := (hb.cell (p := ⟨w.heap.size + 1, 0, none⟩) (by simp)).trans (show _ = some (Value.slice PB t.pairs.length pd) from (by simp [go_sem]))
        have u1 := (hb.cell (p := ⟨w.heap.size + 1, 1, none⟩) (by simp)).trans (show _ = some (Value.slice QB t.queue.length qd) from (by simp [go_sem]))
        have HPre := hid hpre
        clear hpre
        by_cases hlt : k < s.queue.length
        · have hlt' : k < t.queue.length := by omega
          obtain ⟨b, off, rfl, hB, c0⟩ := (H.out.queue.below hw).txt1 hlt
          obtain ⟨b', off', rfl, hB', c0'⟩ := (H'.out.queue.below hw).txt1 hlt'
          by_cases he : s.queue[k] = t.queue[k]
          · have HS := hid (pre_succ hlt hlt' HPre.out he)
            rw [he] at c0
            clear he
            go_wp2_with fail
            go_quiet (fail)
            go_wp2
            exact ⟨⟨k + 1, by omega, by go_num, below_drewN hb _, HS.out⟩, by simp [intOf]; omega⟩
          · have HD := hid (sameS_q (s := s) (t := t) fun e => he (by simp [e]))
            have hv : (s.queue[k].toList == t.queue[k].toList) = false := by rw [beq_eq_false_iff_ne]; exact fun e => he (toList_inj e)
            clear he
            go_wp2_with fail
            go_quiet (fail)
            go_wp2
            go_ret
            exact ⟨by rw [HD.out]; rfl, below_drewN hw _⟩
        · have HE2 := hid (pre_all HQ.out (by omega) HPre.out)
          go_wp2
          go_ret
          exact ⟨by rw [sameS_yes HE.out HE2.out]; rfl, hw⟩
theorem kept2b {W W' : World} {n : Nat} {v0 v1 : Value} (hb : Below (n + 1) W W') (h : W.cell? ⟨n, 0, none⟩ = some v0 ∧ W.cell? ⟨n, 1, none⟩ = some v1) : W'.cell? ⟨n, 0, none⟩ = some v0 ∧ W'.cell? ⟨n, 1, none⟩ = some v1 := by
  rw [hb.cell (p := ⟨n, 0, none⟩) (by show n < n + 1; omega), hb.cell (p := ⟨n, 1, none⟩) (by show n < n + 1; omega)]
  exact h
set_option maxHeartbeats 4000000 in
set_option maxRecDepth 100000 in
theorem refprefix_any (l : List Eff) (A : Option Addr) (c : Nat) (upto : Int) (s : Shelf) (PA : Option Addr) (pc : Nat) (QA : Option Addr) (qc : Nat) (w : World) (hA : Arr Eff.enc 7 w w.heap.size A l) (hc : l.length ≤ c) (hm : c ≤ 9223372036854775807) (hl : l.length ≤ 60) (h : ShIn w w.heap.size PA pc QA qc s) :
    Calls Try.prog 30 #[.slice A l.length c, .int .u64 upto, .agg #[.slice PA s.pairs.length pc, .slice QA s.queue.length qc]] w fun e w' => e = .returned (.bool (sameS (replay l upto) s)) ∧ Below w.heap.size w w' := by
  have HA := hid hA
  have H := hid h
  have HL := hid hl
  have HL8 := hid (show l.length ≤ 800000 by omega)
  have HB1 := hid (fun n => show Arr Eff.enc 7 ((w.alloc (.cells #[.slice PA s.pairs.length pc, .slice QA s.queue.length qc] 41)).drewN n) ((w.alloc (.cells #[.slice PA s.pairs.length pc, .slice QA s.queue.length qc] 41)).drewN n).heap.size A l from (hA.below (show Below w.heap.size w _ from (by repeat (first | exact Below.refl _ _ | assumption | refine Below.drew ?_ | refine below_drewN ?_ _ | refine Below.alloc ?_ (by first | omega | (simp; done) | (simp; omega)) _ | refine Below.setCell ?_ (by first | omega | (simp; done) | (simp; omega)) _)))).more (by simp))
  have HB0 := hid (show (w.alloc (.cells #[.slice PA s.pairs.length pc, .slice QA s.queue.length qc] 41)).cell? ⟨w.heap.size, 0, none⟩ = some (.slice PA s.pairs.length pc) ∧ (w.alloc (.cells #[.slice PA s.pairs.length pc, .slice QA s.queue.length qc] 41)).cell? ⟨w.heap.size, 1, none⟩ = some (.slice QA s.queue.length qc) from by constructor <;> simp [go_sem])
  clear hA h hl
  go_enter Try.func30, Try.ntmps30
  go_wp2_with fail
  go_region_held3 (fun w' => w'.cell? ⟨w.heap.size, 0, none⟩ = some (.slice PA s.pairs.length pc) ∧ w'.cell? ⟨w.heap.size, 1, none⟩ = some (.slice QA s.queue.length qc)) (first | exact kept2b kX HB0.out | exact kept2b kY HB0.out | go_keep) (first | (go_at_call 52; refine (refreplay_any l A c upto _ (HB1.out _) hc hm HL8.out).mono ?_; rintro e wX ⟨PX, px, QX, qx, rfl, hinX, hlowX, hbX⟩; have kX : Below (w.heap.size + 1) (w.alloc (.cells #[.slice PA s.pairs.length pc, .slice QA s.queue.length qc] 41)) wX := (by refine Below.trans ?_ (hbX.mono ?_); exact (by repeat (first | with_reducible exact Below.refl _ _ | with_reducible assumption | with_reducible refine Below.drew ?_ | with_reducible refine below_drewN ?_ _ | with_reducible refine Below.alloc ?_ (by first | omega | (simp; done) | (simp; omega)) _ | with_reducible refine Below.setCell ?_ (by first | omega | (simp; done) | (simp; omega)) _)); (first | omega | (simp; done) | (simp; omega))); have sX : w.heap.size + 1 ≤ wX.heap.size := (by have := kX.size; simpa using this); have bX : Below w.heap.size w wX := (by refine Below.trans (b := w.alloc (.cells #[.slice PA s.pairs.length pc, .slice QA s.queue.length qc] 41)) ?_ (kX.mono (Nat.le_succ _)); exact (by repeat (first | with_reducible exact Below.refl _ _ | with_reducible assumption | with_reducible refine Below.drew ?_ | with_reducible refine below_drewN ?_ _ | with_reducible refine Below.alloc ?_ (by first | omega | (simp; done) | (simp; omega)) _ | with_reducible refine Below.setCell ?_ (by first | omega | (simp; done) | (simp; omega)) _)))) | (go_at_call 57; refine (refsame_any (replay l upto) s PX px QX qx PA pc QA qc _ ?_ ?_).mono ?_; (exact in_below hinX (by repeat (first | with_reducible exact Below.refl _ _ | with_reducible assumption | with_reducible refine Below.drew ?_ | with_reducible refine below_drewN ?_ _ | with_reducible refine Below.alloc ?_ (by first | omega | (simp; done) | (simp; omega)) _ | with_reducible refine Below.setCell ?_ (by first | omega | (simp; done) | (simp; omega)) _))); (refine in_below H.out ?_; exact (by repeat (first | with_reducible exact Below.refl _ _ | with_reducible assumption | with_reducible refine Below.drew ?_ | with_reducible refine below_drewN ?_ _ | with_reducible refine Below.alloc ?_ (by first | omega | (simp; done) | (simp; omega)) _ | with_reducible refine Below.setCell ?_ (by first | omega | (simp; done) | (simp; omega)) _))); rintro e wY ⟨rfl, hbY⟩; have bY : Below w.heap.size w wY := (by refine bX.trans ?_; refine Below.mono ?_ bX.size; refine Below.trans ?_ (hbY.mono ?_); exact (by repeat (first | with_reducible exact Below.refl _ _ | with_reducible assumption | with_reducible refine Below.drew ?_ | with_reducible refine below_drewN ?_ _ | with_reducible refine Below.alloc ?_ (by first | omega | (simp; done) | (simp; omega)) _ | with_reducible refine Below.setCell ?_ (by first | omega | (simp; done) | (simp; omega)) _)); (first | omega | (simp; done) | (simp; omega))); have kY : Below (w.heap.size + 1) (w.alloc (.cells #[.slice PA s.pairs.length pc, .slice QA s.queue.length qc] 41)) wY := (by refine kX.trans ?_; refine Below.mono ?_ sX; refine Below.trans ?_ (hbY.mono ?_); exact (by repeat (first | with_reducible exact Below.refl _ _ | with_reducible assumption | with_reducible refine Below.drew ?_ | with_reducible refine below_drewN ?_ _ | with_reducible refine Below.alloc ?_ (by first | omega | (simp; done) | (simp; omega)) _ | with_reducible refine Below.setCell ?_ (by first | omega | (simp; done) | (simp; omega)) _)); (first | omega | (simp; done) | (simp; omega)))))
  go_wp2
  go_ret
  exact ⟨rfl, bY⟩
set_option maxHeartbeats 8000000 in
set_option maxRecDepth 100000 in
theorem prefix_any (l : List Eff) (A : Option Addr) (c : Nat) (upto : Int) (s : Shelf) (PA : Option Addr) (pc : Nat) (QA : Option Addr) (qc : Nat) (w : World) (hA : Arr Eff.enc 7 w w.heap.size A l) (hc : l.length ≤ c) (hm : c ≤ 9223372036854775807) (hl : l.length ≤ 60) (h : ShIn w w.heap.size PA pc QA qc s) :
    Calls Try.prog 26 #[.slice A l.length c, .int .u64 upto, .agg #[.slice PA s.pairs.length pc, .slice QA s.queue.length qc]] w fun e w' => e = .returned (.bool (sameS (replay l upto) s)) ∧ Below w.heap.size w w' := by
  have HA := hid hA
  have H := hid h
  have HL := hid hl
  have hpl := h.plen
  have hpm := h.pmax
  have hql := h.qlen
  have hqm := h.qmax
  clear hA h hl
  go_enter Try.func26, Try.ntmps26
  go_wp2_with fail
  refine (replay_any l A c upto _ ((HA.out.below (by repeat (first | exact Below.refl _ _ | assumption | refine Below.drew ?_ | refine below_drewN ?_ _ | refine Below.alloc ?_ (by first | omega | (simp; done) | (simp; omega)) _ | refine Below.setCell ?_ (by first | omega | (simp; done) | (simp; omega)) _))).more (by first | omega | (simp; done) | (simp; omega))) hc hm (by have := HL.out; omega)).mono ?_
  rintro e w1 ⟨PX, px, QX, qx, rfl, hown, hb1⟩
  obtain ⟨T, hT⟩ : ∃ T, T = replay l upto := ⟨_, rfl⟩
  rw [← hT] at hown ⊢
  have bw1 : Below w.heap.size w w1 := Below.trans (by repeat (first | exact Below.refl _ _ | assumption | refine Below.drew ?_ | refine below_drewN ?_ _ | refine Below.alloc ?_ (by first | omega | (simp; done) | (simp; omega)) _ | refine Below.setCell ?_ (by first | omega | (simp; done) | (simp; omega)) _)) (hb1.mono (show w.heap.size ≤ _ from (by first | omega | (simp; done) | (simp; omega))))
  have hz1 := hb1.size
  simp only [World.size_alloc] at hz1
  have c0 := (hb1.cell (p := ⟨w.heap.size, 0, none⟩) (by simp)).trans (show _ = some (Value.slice PA s.pairs.length pc) from (by simp [go_sem]))
  have c1 := (hb1.cell (p := ⟨w.heap.size, 1, none⟩) (by simp)).trans (show _ = some (Value.slice QA s.queue.length qc) from (by simp [go_sem]))
  have HO := hid hown.in_
  have xl := hown.pairs.len
  have xm := hown.pairs.max
  have yl := hown.queue.len
  have ym := hown.queue.max
  have hn1 : w.heap.size < w1.heap.size := by omega
  have HB := hid bw1
  have HT := hid hT
  clear hT hown hb1 bw1
  by_cases hlen : T.pairs.length = s.pairs.length ∧ T.queue.length = s.queue.length
  case neg =>
    have HF := hid (sameS_len hlen)
    by_cases h1 : T.pairs.length = s.pairs.length
    · have h2 : ¬ T.queue.length = s.queue.length := fun h => hlen ⟨h1, h⟩
      have b1 : (((T.pairs.length : Nat) : Int) != ((s.pairs.length : Nat) : Int)) = false := by simp [h1]
      have b2 : (((T.queue.length : Nat) : Int) != ((s.queue.length : Nat) : Int)) = true := by rw [bne_iff_ne]; omega
      clear h1 h2 hlen
      go_wp2
      go_ret
      have := HB.out
      exact ⟨by rw [← HT.out, HF.out]; rfl, (by repeat (first | exact Below.refl _ _ | assumption | refine Below.drew ?_ | refine below_drewN ?_ _ | refine Below.alloc ?_ (by first | omega | (simp; done) | (simp; omega)) _ | refine Below.setCell ?_ (by first | omega | (simp; done) | (simp; omega)) _))⟩
    · have b1 : (((T.pairs.length : Nat) : Int) != ((s.pairs.length : Nat) : Int)) = true := by rw [bne_iff_ne]; omega
      clear h1 hlen
      go_wp2
      go_ret
      have := HB.out
      exact ⟨by rw [← HT.out, HF.out]; rfl, (by repeat (first | exact Below.refl _ _ | assumption | refine Below.drew ?_ | refine below_drewN ?_ _ | refine Below.alloc ?_ (by first | omega | (simp; done) | (simp; omega)) _ | refine Below.setCell ?_ (by first | omega | (simp; done) | (simp; omega)) _))⟩
  obtain ⟨hp, hq⟩ := hlen
  have b1 : (((T.pairs.length : Nat) : Int) != ((s.pairs.length : Nat) : Int)) = false := by simp [hp]
  have b2 : (((T.queue.length : Nat) : Int) != ((s.queue.length : Nat) : Int)) = false := by simp [hq]
  have HP := hid hp
  have HQ := hid hq
  have hp1 : s.pairs.length ≤ T.pairs.length := by omega
  have hp2 : T.pairs.length ≤ s.pairs.length := by omega
  have hq1 : s.queue.length ≤ T.queue.length := by omega
  have hq2 : T.queue.length ≤ s.queue.length := by omega
  clear hp hq
  go_wp2_with fail
  have c0' := c0
  have c1' := c1
  have HC0 := hid c0
  have HC1 := hid c1
  clear c0 c1 c0' c1'
  obtain ⟨W, hW⟩ : ∃ W, W = w1.alloc (.cells #[.slice PX T.pairs.length px, .slice QX T.queue.length qx] 41) := ⟨_, rfl⟩
  have HWD := hid hW
  have HW : Hid (Below w1.heap.size w1 W) := hid (by rw [hW]; exact (by repeat (first | exact Below.refl _ _ | assumption | refine Below.drew ?_ | refine below_drewN ?_ _ | refine Below.alloc ?_ (by first | omega | (simp; done) | (simp; omega)) _ | refine Below.setCell ?_ (by first | omega | (simp; done) | (simp; omega)) _)))
  have hWs : W.heap.size = w1.heap.size + 1 := by rw [hW]; simp
  have d0 : W.cell? ⟨w1.heap.size, 0, none⟩ = some (.slice PX T.pairs.length px) := by rw [hW]; simp [go_sem]
  have d1 : W.cell? ⟨w1.heap.size, 1, none⟩ = some (.slice QX T.queue.length qx) := by rw [hW]; simp [go_sem]
  have e0 : W.cell? ⟨w.heap.size, 0, none⟩ = some (.slice PA s.pairs.length pc) := (HW.out.cell (p := ⟨w.heap.size, 0, none⟩) hn1).trans HC0.out
  have e1 : W.cell? ⟨w.heap.size, 1, none⟩ = some (.slice QA s.queue.length qc) := (HW.out.cell (p := ⟨w.heap.size, 1, none⟩) hn1).trans HC1.out
  have HBW := hid (HB.out.trans (HW.out.mono HB.out.size))
  have HTW := hid (in_below HO.out HW.out)
  have HSW := hid (in_below H.out HBW.out)
  have HD := hid (And.intro d0 d1)
  have HE := hid (And.intro e0 e1)
  rw [← hW]
  clear hW d0 d1 e0 e1 HC0 HC1 HO H HW HB HWD
  go_loopw [34] (fun i wr => ∃ k : Nat, k ≤ T.pairs.length ∧ i = .int .i64 k ∧ Below W.heap.size W wr ∧ T.pairs.take k = s.pairs.take k) (fun i _ => T.pairs.length - (intOf i).toNat)
  case atStart => exact ⟨0, Nat.zero_le _, rfl, Below.refl _ _, rfl⟩
  case round =>
    obtain ⟨k, hkl, rfl, hb, hpre⟩ := hrel
    have HPre := hid hpre
    have d0 := (hb.cell (p := ⟨w1.heap.size, 0, none⟩) (by show w1.heap.size < _; omega)).trans HD.out.1
    have d1 := (hb.cell (p := ⟨w1.heap.size, 1, none⟩) (by show w1.heap.size < _; omega)).trans HD.out.2
    have e0 := (hb.cell (p := ⟨w.heap.size, 0, none⟩) (by show w.heap.size < _; omega)).trans HE.out.1
    have e1 := (hb.cell (p := ⟨w.heap.size, 1, none⟩) (by show w.heap.size < _; omega)).trans HE.out.2
    have hbs := hb.size
    have hl1 : w.heap.size < wr.heap.size := by omega
    have hl2 : w1.heap.size < wr.heap.size := by omega
    clear hpre
    have HBR := hid hb
    clear hb
    by_cases hlt : k < T.pairs.length
    · have hlt' : k < s.pairs.length := by omega
      have hlk : (k : Int) < (T.pairs.length : Int) := by omega
      obtain ⟨b, off, hA1, hB, c0, c1⟩ := (HTW.out.pairs.below HBR.out).pair hlt
      obtain ⟨b', off', hA2, hB', c0', c1'⟩ := (HSW.out.pairs.below HBR.out).pair hlt'
      subst hA1 hA2
      have hbl : b < wr.heap.size := by omega
      have hbl' : b' < wr.heap.size := by omega
      by_cases he : T.pairs[k] = s.pairs[k]
      · have HS := hid (pre_succ hlt hlt' HPre.out he)
        rw [he] at c0 c1
        clear he
        go_wp2_with fail
        go_quiet (fail)
        go_wp2
        have := HBR.out
        exact ⟨⟨k + 1, by omega, by go_num, (by repeat (first | exact Below.refl _ _ | assumption | refine Below.drew ?_ | refine below_drewN ?_ _ | refine Below.alloc ?_ (by first | omega | (simp; done) | (simp; omega)) _ | refine Below.setCell ?_ (by first | omega | (simp; done) | (simp; omega)) _)), HS.out⟩, by simp [intOf]; omega⟩
      · have HF := hid (sameS_p (s := T) (t := s) fun e => he (by simp [e]))
        by_cases hk : T.pairs[k].key = s.pairs[k].key
        · have hv : (T.pairs[k].val.toList == s.pairs[k].val.toList) = false := by
            rw [beq_eq_false_iff_ne]
            intro e
            exact he (by rw [show T.pairs[k] = ⟨T.pairs[k].key, T.pairs[k].val⟩ from rfl, toList_inj e, hk])
          rw [hk] at c0
          clear he hk
          go_wp2_with fail
          go_quiet (fail)
          go_wp2
          go_ret
          have := HBR.out
          exact ⟨by rw [← HT.out, HF.out]; rfl, HBW.out.trans (Below.mono (show Below W.heap.size W _ from (by repeat (first | exact Below.refl _ _ | assumption | refine Below.drew ?_ | refine below_drewN ?_ _ | refine Below.alloc ?_ (by first | omega | (simp; done) | (simp; omega)) _ | refine Below.setCell ?_ (by first | omega | (simp; done) | (simp; omega)) _))) HBW.out.size)⟩
        · have hv : (T.pairs[k].key.toList == s.pairs[k].key.toList) = false := by
            rw [beq_eq_false_iff_ne]
            exact fun e => hk (toList_inj e)
          clear he hk
          go_wp2_with fail
          go_quiet (fail)
          go_wp2
          go_ret
          have := HBR.out
          exact ⟨by rw [← HT.out, HF.out]; rfl, HBW.out.trans (Below.mono (show Below W.heap.size W _ from (by repeat (first | exact Below.refl _ _ | assumption | refine Below.drew ?_ | refine below_drewN ?_ _ | refine Below.alloc ?_ (by first | omega | (simp; done) | (simp; omega)) _ | refine Below.setCell ?_ (by first | omega | (simp; done) | (simp; omega)) _))) HBW.out.size)⟩
    · have HEQ := hid (pre_all HP.out (by omega) HPre.out)
      go_wp2_with fail
      clear HPre hlt hkl
      have HBR2 := HBR
      have HD2 := hid (And.intro d0 d1)
      have HE2 := hid (And.intro e0 e1)
      clear d0 d1 e0 e1
      go_loopw [50] (fun i wr => ∃ k : Nat, k ≤ T.queue.length ∧ i = .int .i64 k ∧ Below W.heap.size W wr ∧ T.queue.take k = s.queue.take k) (fun i _ => T.queue.length - (intOf i).toNat)
      case atStart => exact ⟨0, Nat.zero_le _, rfl, HBR.out, rfl⟩
      case round =>
        clear HBR HBR2 HD2 HE2 hbs hl1 hl2
        obtain ⟨k, hkl, rfl, hb, hpre⟩ := hrel
        have HPre := hid hpre
        have e0 := (hb.cell (p := ⟨w.heap.size, 0, none⟩) (by show w.heap.size < _; omega)).trans HE.out.1
        have e1 := (hb.cell (p := ⟨w.heap.size, 1, none⟩) (by show w.heap.size < _; omega)).trans HE.out.2
        have hbs := hb.size
        have HBR := hid hb
        clear hpre hb
        by_cases hlt : k < T.queue.length
        · have hlt' : k < s.queue.length := by omega
          have hlk : (k : Int) < (T.queue.length : Int) := by omega
          obtain ⟨b, off, hA1, hB, c0⟩ := (HTW.out.queue.below HBR.out).txt1 hlt
          obtain ⟨b', off', hA2, hB', c0'⟩ := (HSW.out.queue.below HBR.out).txt1 hlt'
          subst hA1 hA2
          by_cases he : T.queue[k] = s.queue[k]
          · have HS := hid (pre_succ hlt hlt' HPre.out he)
            rw [he] at c0
            clear he
            go_wp2_with fail
            have := HBR.out
            exact ⟨⟨k + 1, by omega, by go_num, (by repeat (first | exact Below.refl _ _ | assumption | refine Below.drew ?_ | refine below_drewN ?_ _ | refine Below.alloc ?_ (by first | omega | (simp; done) | (simp; omega)) _ | refine Below.setCell ?_ (by first | omega | (simp; done) | (simp; omega)) _)), HS.out⟩, by simp [intOf]; omega⟩
          · have HF := hid (sameS_q (s := T) (t := s) fun e => he (by simp [e]))
            have hv : (T.queue[k].toList == s.queue[k].toList) = false := by rw [beq_eq_false_iff_ne]; exact fun e => he (toList_inj e)
            clear he
            go_wp2_with fail
            go_ret
            have := HBR.out
            exact ⟨by rw [← HT.out, HF.out]; rfl, HBW.out.trans (Below.mono (show Below W.heap.size W _ from (by repeat (first | exact Below.refl _ _ | assumption | refine Below.drew ?_ | refine below_drewN ?_ _ | refine Below.alloc ?_ (by first | omega | (simp; done) | (simp; omega)) _ | refine Below.setCell ?_ (by first | omega | (simp; done) | (simp; omega)) _))) HBW.out.size)⟩
        · have HEQ2 := hid (pre_all HQ.out (by omega) HPre.out)
          go_wp2
          go_ret
          have := HBR.out
          exact ⟨by rw [← HT.out, sameS_yes HEQ.out HEQ2.out]; rfl, HBW.out.trans (Below.mono (show Below W.heap.size W _ from (by repeat (first | exact Below.refl _ _ | assumption | refine Below.drew ?_ | refine below_drewN ?_ _ | refine Below.alloc ?_ (by first | omega | (simp; done) | (simp; omega)) _ | refine Below.setCell ?_ (by first | omega | (simp; done) | (simp; omega)) _))) HBW.out.size)⟩
end Go.Proofs.Ythpegmeebhkhbaa
