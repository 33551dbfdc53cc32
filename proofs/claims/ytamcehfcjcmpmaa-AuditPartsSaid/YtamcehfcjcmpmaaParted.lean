/- audit.Parted: whether each taken block is just one of four things. -/
import Derived.Test.YtamcehfcjcmpmaaCnt
import Derived.RegionTactic
import Derived.Deep.RegionLaw
import Derived.Deep.RegionHeld3
import Derived.Maps.RangeWalk
import Derived.Deep.DeepCutAuto
namespace Go.Proofs.Ytamcehfcjcmpmaa
open Go.RowKit

/-- how often a block is taken, less how often it is one of the first j things -/
def bal (l : Nat → List Taken) : Nat → Taken → Int
  | 0, x => ((l 0).count x : Int)
  | j + 1, x => bal l j x - ((l (j + 1)).count x : Int)
def balAt (l : Nat → List Taken) (j k : Nat) (x : Taken) : Int := bal l j x - (((l (j + 1)).take k).count x : Int)
theorem count_succ {l : List Taken} {k : Nat} (hk : k < l.length) (y : Taken) : (l.take (k + 1)).count y = (l.take k).count y + if y = l[k] then 1 else 0 := by
  rw [List.take_succ_eq_append_getElem hk, List.count_append, List.count_singleton]
  by_cases h : y = l[k]
  · simp [h]
  · simp [h, Ne.symm h]
theorem up_count {l : List Taken} {k : Nat} (hk : k < l.length) : upF (fun x => ((l.take k).count x : Int)) l[k] (((l.take k).count l[k] : Int) + 1) = fun x => ((l.take (k + 1)).count x : Int) := by
  funext y
  rw [count_succ hk, upF]
  by_cases h : y = l[k]
  · subst h; simp
  · simp [h]
theorem up_bal {l : Nat → List Taken} {j k : Nat} (hk : k < (l (j + 1)).length) : upF (balAt l j k) (l (j + 1))[k] (balAt l j k (l (j + 1))[k] - 1) = balAt l j (k + 1) := by
  funext y
  unfold balAt upF
  rw [count_succ hk]
  by_cases h : y = (l (j + 1))[k]
  · subst h; simp; omega
  · simp [h]
theorem count_bd (l : List Taken) (k : Nat) (x : Taken) : ((l.take k).count x : Int) ≤ k := by
  have := List.count_le_length (a := x) (l := l.take k)
  rw [List.length_take] at this
  omega
theorem bal_bd (l : Nat → List Taken) (N : Nat) : ∀ j, (∀ i, i ≤ j → (l i).length ≤ N) → ∀ x, -((j * N : Nat) : Int) ≤ bal l j x ∧ bal l j x ≤ N
  | 0, h, x => by
    have := List.count_le_length (a := x) (l := l 0)
    have := h 0 (Nat.le_refl _)
    simp only [bal]
    omega
  | j + 1, h, x => by
    have ih := bal_bd l N j (fun i hi => h i (by omega)) x
    have := List.count_le_length (a := x) (l := l (j + 1))
    have := h (j + 1) (Nat.le_refl _)
    simp only [bal]
    rw [Nat.succ_mul]
    omega
/-- five lists of blocks in memory -/
structure RoomsIn (w : World) (B : Nat) (A : Nat → Option Addr) (c : Nat → Nat) (l : Nat → List Taken) : Prop where
  arr : ∀ i, i < 5 → Arr Taken.enc 2 w B (A i) (l i)
  len : ∀ i, i < 5 → (l i).length ≤ c i
  max : ∀ i, i < 5 → c i ≤ 9223372036854775807
  few : ∀ i, i < 5 → (l i).length ≤ 1000
  inr : ∀ i, i < 5 → ∀ x ∈ l i, InR x
theorem RoomsIn.below {w w' : World} {B : Nat} {A : Nat → Option Addr} {c : Nat → Nat} {l : Nat → List Taken} (h : RoomsIn w B A c l) (hb : Below B w w') : RoomsIn w' B A c l :=
  ⟨fun i hi => (h.arr i hi).below hb, h.len, h.max, h.few, h.inr⟩
def roomsV (A : Nat → Option Addr) (c : Nat → Nat) (l : Nat → List Taken) : Value := .agg #[.slice (A 0) (l 0).length (c 0), .slice (A 1) (l 1).length (c 1), .slice (A 2) (l 2).length (c 2), .slice (A 3) (l 3).length (c 3), .slice (A 4) (l 4).length (c 4)]
def GivesParted (l : Nat → List Taken) (w : World) (e : Ending) (w' : World) : Prop := ∃ b, e = .returned (.bool b) ∧ (b = true ↔ (∀ x, bal l 4 x = 0) ∧ overlapB (l 0) = false) ∧ Below w.heap.size w w'
set_option maxHeartbeats 8000000 in
set_option maxRecDepth 100000 in
theorem parted_any (A : Nat → Option Addr) (c : Nat → Nat) (l : Nat → List Taken) (w : World) (h : RoomsIn w w.heap.size A c l) : Calls Try.prog 6 #[roomsV A c l] w (GivesParted l w) := by
  have H := hid h
  have hf0 := h.few 0 (by omega)
  have hf1 := h.few 1 (by omega)
  have hf2 := h.few 2 (by omega)
  have hf3 := h.few 3 (by omega)
  have hf4 := h.few 4 (by omega)
  have hc0 := h.len 0 (by omega)
  have hm0 := h.max 0 (by omega)
  clear h
  unfold roomsV
  go_enter Try.func6, Try.ntmps6
  have hmm := @run_makeMap Try.prog
  go_wp2_with fail
  obtain ⟨W0, hW0⟩ : ∃ W0, W0 = w.alloc (.cells #[.slice (A 0) (l 0).length (c 0), .slice (A 1) (l 1).length (c 1), .slice (A 2) (l 2).length (c 2), .slice (A 3) (l 3).length (c 3), .slice (A 4) (l 4).length (c 4)] 26) := ⟨_, rfl⟩
  have hB0 : Below w.heap.size w W0 := by rw [hW0]; exact (by repeat (first | exact Below.refl _ _ | assumption | refine Below.drew ?_ | refine below_drewN ?_ _ | refine Below.alloc ?_ (by first | omega | (simp; done) | (simp; omega)) _ | refine Below.setCell ?_ (by first | omega | (simp; done) | (simp; omega)) _))
  have hz0 : W0.heap.size = w.heap.size + 1 := by rw [hW0]; simp
  have hr0 : W0.heap[w.heap.size]? = some (.cells #[.slice (A 0) (l 0).length (c 0), .slice (A 1) (l 1).length (c 1), .slice (A 2) (l 2).length (c 2), .slice (A 3) (l 3).length (c 3), .slice (A 4) (l 4).length (c 4)] 26 (0, 0)) := by rw [hW0]; exact Array.getElem?_push_size
  have HB0 := hid hB0
  have HR0 := hid hr0
  rw [← hW0]
  clear hB0 hr0 hW0
  go_loopw [16] (fun v16 wr => ∃ k : Nat, k ≤ (l 0).length ∧ v16 = .int .i64 k ∧ Below (w.heap.size + 1) W0 wr ∧ MapC wr (w.heap.size + 1) (fun x => (((l 0).take k).count x : Int))) (fun v16 _ => (l 0).length - (intOf v16).toNat)
  case atStart =>
    refine ⟨0, Nat.zero_le _, rfl, (Below.refl _ _).alloc (by omega) _, #[], 0, ?_, ?_⟩
    · rw [← hz0]; exact Array.getElem?_push_size
    · have : (fun x : Taken => (((l 0).take 0).count x : Int)) = fun _ => 0 := by funext x; simp
      rw [this]; exact CM.nil
  case round =>
    obtain ⟨k, hkl, rfl, hbw, hmc⟩ := hrel
    have hbx : Below w.heap.size w wr := HB0.out.trans (hbw.mono (by omega))
    have hmlt := hmc.lt
    have hsz := hbw.size
    by_cases hlt : k < (l 0).length
    · obtain ⟨b, off, hA, hB, k0, k1⟩ := ((H.out.arr 0 (by omega)).below hbx).taken hlt
      rw [hA]
      have HX := hid (H.out.inr 0 (by omega) _ (List.getElem_mem hlt))
      have HUP := hid (up_count hlt)
      have hcb := count_bd (l 0) k (l 0)[k]
      have hcn : (0 : Int) ≤ (((l 0).take k).count (l 0)[k] : Int) := by omega
      obtain ⟨N, hN⟩ : ∃ N : Int, N = (((l 0).take k).count (l 0)[k] : Int) := ⟨_, rfl⟩
      have hmb : MapC (wr.alloc (.cells #[.int .i64 (l 0)[k].line, .int .i64 (l 0)[k].cls] 29)).drew (w.heap.size + 1) (fun x => (((l 0).take k).count x : Int)) := hmc.same (Below.heap_alloc _ _ _ hmlt)
      have e1 := look_ex hmb HX.out
      obtain ⟨st, wE, e2, hE, hgE⟩ := entry_ex hmb HX.out
      have e3 := look_ex hE.toC HX.out
      obtain ⟨wS, e4, hS, hgS⟩ := store_ex hE HX.out (N + 1)
      simp only [← hN] at e1 e2 e3 hcb hcn
      have HE := hid (And.intro hgE hgS)
      rw [hN, HUP.out] at hS
      have HS := hid hS
      have HNN := hid hN
      clear hmc hE hS hgE hgS hmb hN
      go_wp2_with fail
      go_region
      all_goals
        go_wp2_with fail
        go_roundw
        case rel => exact ⟨k + 1, by omega, by go_num, ((hbw.alloc (by omega) _).drew.grown HE.out.1 (by simp; omega) (fun j hj => by cases hj; exact Nat.le_refl _)).grown HE.out.2 (by have := HE.out.1.size; simp at this; omega) (fun j hj => by cases hj; exact Nat.le_refl _), HS.out⟩
        case measure => simp [intOf]; omega
    · have hk : (l 0).take k = l 0 := List.take_of_length_le (by omega)
      rw [hk] at hmc
      have HMC : Hid (MapC wr (w.heap.size + 1) (bal l 0)) := hid hmc
      have hbox : wr.heap[w.heap.size]? = some (.cells #[.slice (A 0) (l 0).length (c 0), .slice (A 1) (l 1).length (c 1), .slice (A 2) (l 2).length (c 2), .slice (A 3) (l 3).length (c 3), .slice (A 4) (l 4).length (c 4)] 26 (0, 0)) := (hbw.block _ (by omega)).trans HR0.out
      have x0 := cell_of_row wr _ 0 _ _ _ hbox
      have x1 := cell_of_row wr _ 1 _ _ _ hbox
      have x2 := cell_of_row wr _ 2 _ _ _ hbox
      have x3 := cell_of_row wr _ 3 _ _ _ hbox
      have x4 := cell_of_row wr _ 4 _ _ _ hbox
      simp at x0 x1 x2 x3 x4
      have hbl : w.heap.size < wr.heap.size := by omega
      have HBOX := hid hbox
      obtain ⟨wo, hwo⟩ : ∃ wo, wo = wr := ⟨_, rfl⟩
      subst hwo
      clear hmc hbox hk
      go_wp2_with fail
      obtain ⟨W1, hW1⟩ : ∃ W1, W1 = wo.alloc (.cells #[.slice (A 1) (l 1).length (c 1), .slice (A 2) (l 2).length (c 2), .slice (A 3) (l 3).length (c 3), .slice (A 4) (l 4).length (c 4)] 24) := ⟨_, rfl⟩
      have hb1 : Below wo.heap.size wo W1 := by rw [hW1]; exact (by repeat (first | exact Below.refl _ _ | assumption | refine Below.drew ?_ | refine below_drewN ?_ _ | refine Below.alloc ?_ (by first | omega | (simp; done) | (simp; omega)) _ | refine Below.setCell ?_ (by first | omega | (simp; done) | (simp; omega)) _))
      have hz1 : W1.heap.size = wo.heap.size + 1 := by rw [hW1]; simp
      have hr1 : W1.heap[wo.heap.size]? = some (.cells #[.slice (A 1) (l 1).length (c 1), .slice (A 2) (l 2).length (c 2), .slice (A 3) (l 3).length (c 3), .slice (A 4) (l 4).length (c 4)] 24 (0, 0)) := by rw [hW1]; exact Array.getElem?_push_size
      have hm1 : MapC W1 (w.heap.size + 1) (bal l 0) := HMC.out.same (hb1.block _ hmlt)
      have hx1 := (hb1.block _ hbl).trans HBOX.out
      have bw1 : Below w.heap.size w W1 := hbx.trans (hb1.mono (by omega))
      rw [← hW1]
      have HR1 := hid hr1
      have HM1 := hid hm1
      have HX1 := hid hx1
      clear hW1 hb1 hr1 hm1 hx1 x0 x1 x2 x3 x4
      have hn0 : ¬ w.heap.size + 1 = wo.heap.size := by omega
      have hn1 : ¬ w.heap.size + 1 = w.heap.size := by omega
      go_loopw [37] (fun v37 wr => ∃ j : Nat, j ≤ 4 ∧ v37 = .int .i64 j ∧ W1.grownBy wr (some (w.heap.size + 1)) ∧ MapC wr (w.heap.size + 1) (bal l j)) (fun v37 _ => 4 - (intOf v37).toNat)
      case atStart => exact ⟨0, by omega, rfl, World.grownBy.refl _ _, HM1.out⟩
      case round =>
        obtain ⟨j, hj4, rfl, hgr, hmc⟩ := hrel
        obtain ⟨wp, hwp⟩ : ∃ wp, wp = wr := ⟨_, rfl⟩
        subst hwp
        have hsp := hgr.size
        have HMC2 := hid hmc
        have HGR := hid hgr
        have bwp : Below w.heap.size w wp := bw1.grown hgr (by omega) (fun i hi => by cases hi; omega)
        clear hmc hgr
        by_cases hlt4 : j < 4
        · have hrow := (HGR.out.block wo.heap.size (by omega) (fun e => by injection e with e; omega)).trans HR1.out
          have y : wp.cell? ⟨wo.heap.size, j, none⟩ = some (.slice (A (j + 1)) (l (j + 1)).length (c (j + 1))) := by
            rw [cell_of_row wp _ j _ _ _ hrow]
            rcases (by omega : j = 0 ∨ j = 1 ∨ j = 2 ∨ j = 3) with rfl | rfl | rfl | rfl <;> rfl
          have hlj4 : (j : Int) < 4 := by omega
          have hfw := H.out.few (j + 1) (by omega)
          have hln := H.out.len (j + 1) (by omega)
          have hmx := H.out.max (j + 1) (by omega)
          clear hrow
          go_wp2_with fail
          go_loopw [43] (fun v43 wr => ∃ k : Nat, k ≤ (l (j + 1)).length ∧ v43 = .int .i64 k ∧ wp.grownBy wr (some (w.heap.size + 1)) ∧ MapC wr (w.heap.size + 1) (balAt l j k)) (fun v43 _ => (l (j + 1)).length - (intOf v43).toNat)
          case atStart => exact ⟨0, Nat.zero_le _, rfl, World.grownBy.refl _ _, by have : balAt l j 0 = bal l j := (by funext x; simp [balAt]); rw [this]; exact HMC2.out⟩
          case round =>
            obtain ⟨k, hkl, rfl, hgr, hmc⟩ := hrel
            have hsr := hgr.size
            have hmlt2 := hmc.lt
            have bwr : Below w.heap.size w wr := bwp.grown hgr (by omega) (fun i hi => by cases hi; omega)
            have HGR2 := hid hgr
            by_cases hlt : k < (l (j + 1)).length
            · obtain ⟨b, off, hA, hB, k0, k1⟩ := ((H.out.arr (j + 1) (by omega)).below bwr).taken hlt
              rw [hA]
              have HX := hid (H.out.inr (j + 1) (by omega) _ (List.getElem_mem hlt))
              have HUP := hid (up_bal (j := j) hlt)
              obtain ⟨N, hN⟩ : ∃ N : Int, N = balAt l j k (l (j + 1))[k] := ⟨_, rfl⟩
              have hN1 : -5000 ≤ N ∧ N ≤ 5000 := by
                have h1 := bal_bd l 1000 j (fun i hi => H.out.few i (by omega)) (l (j + 1))[k]
                have h2 := count_bd (l (j + 1)) k (l (j + 1))[k]
                have h3 : (0 : Int) ≤ (((l (j + 1)).take k).count (l (j + 1))[k] : Int) := by omega
                have h4 : ((j * 1000 : Nat) : Int) ≤ 4000 := by omega
                rw [hN, balAt]
                omega
              have hN2 := hN1.1
              have hN3 := hN1.2
              have hmb : MapC (wr.alloc (.cells #[.int .i64 (l (j + 1))[k].line, .int .i64 (l (j + 1))[k].cls] 29)).drew (w.heap.size + 1) (balAt l j k) := hmc.same (Below.heap_alloc _ _ _ hmlt2)
              have e1 := look_ex hmb HX.out
              obtain ⟨st, wE, e2, hE, hgE⟩ := entry_ex hmb HX.out
              have e3 := look_ex hE.toC HX.out
              obtain ⟨wS, e4, hS, hgS⟩ := store_ex hE HX.out (N - 1)
              simp only [← hN] at e1 e2 e3
              have hga := World.grownBy_alloc wr (.cells #[.int .i64 (l (j + 1))[k].line, .int .i64 (l (j + 1))[k].cls] 29) none
              have HE := hid (World.grownBy.andThen (World.grownBy.andThen (World.grownBy.andThen hgr (c := (wr.alloc (.cells #[.int .i64 (l (j + 1))[k].line, .int .i64 (l (j + 1))[k].cls] 29)).drew) ⟨hga.os, hga.tape, hga.output, hga.size, hga.block⟩ (fun i hi => by cases hi)) hgE (fun i hi => .inr hi)) hgS (fun i hi => .inr hi))
              rw [hN, HUP.out] at hS
              have HS := hid hS
              clear hga hmc hE hS hgE hgS hmb hN hN1 hgr
              go_wp2_with fail
              go_region
              all_goals
                go_wp2_with fail
                go_roundw
                case rel => exact ⟨k + 1, by omega, by go_num, HE.out, HS.out⟩
                case measure => simp [intOf]; omega
            · have hk : balAt l j k = bal l (j + 1) := by funext x; simp [balAt, bal, List.take_of_length_le (show (l (j + 1)).length ≤ k by omega)]
              rw [hk] at hmc
              have HMC3 := hid hmc
              clear hmc hgr hk
              go_wp2_with fail
              go_roundw
              case rel => exact ⟨j + 1, by omega, by go_num, HGR.out.andThen HGR2.out (fun i hi => .inr hi), HMC3.out⟩
              case measure => simp [intOf]; omega
        · have hj : j = 4 := by omega
          subst hj
          have hx := (HGR.out.block w.heap.size (by omega) (fun e => by injection e with e; omega)).trans HX1.out
          have HXX := hid hx
          have HARR := hid ((H.out.arr 0 (by omega)).below bwp)
          clear hx hlt4 hj4
          go_wp2_with ((at_range; refine wpList_range_c rfl (.tmp 55) rfl rfl HMC2.out ?_; intro wI hit hgI hzI))
          go_frame
          go_loopw [11] (fun v11 wr => IterC wr (w.heap.size + 1) wp.heap.size (bal l 4) ∧ wI.grownBy wr (some wp.heap.size)) (fun _ wr => wr.rangeLeft (w.heap.size + 1) wp.heap.size)
          case atStart => exact ⟨hit, World.grownBy.refl _ _⟩
          case round =>
            obtain ⟨hit2, hg2⟩ := hrel
            have hs2 := hg2.size
            have hxr := (hg2.block w.heap.size (by omega) (fun e => by injection e with e; omega)).trans ((hgI.block w.heap.size (by omega) (fun e => by cases e)).trans HXX.out)
            have x0 := cell_of_row wr _ 0 _ _ _ hxr
            simp at x0
            have bwr : Below wp.heap.size wp wr := Below.grown ⟨hgI.os, hgI.tape, hgI.output, hgI.size, fun i hi => hgI.block i hi (fun e => by cases e)⟩ hg2 (by omega) (fun i hi => by cases hi; exact Nat.le_refl _)
            have HG2 := hid hg2
            clear hg2 hxr hit
            go_wp2_with ((at_next; refine wpList_next_c rfl (.tmp 56) rfl rfl hit2 ?_ ?_ <;> (try intro x wN hcont hlt hgN hzN hen)))
            · intro hz
              have HZ := hid hz
              clear hz
              go_wp2_with ((go_at_call 7; refine (overlap_any (l 0) (A 0) (c 0) _ ((HARR.out.below (bwr.mono bwp.size)).more (by have := bwp.size; omega)) hc0 hm0).mono ?_; rintro e wV ⟨rfl, hbV⟩))
              go_ret
              refine ⟨!overlapB (l 0), rfl, by simp; exact fun _ => HZ.out, (bwp.trans (bwr.mono bwp.size)).trans (hbV.mono (by have := bwp.size; omega))⟩
            · rename_i hne
              go_ret
              refine ⟨false, rfl, by simp; exact fun h => absurd (h x) (by simpa using hne), (bwp.trans (bwr.mono bwp.size)).grown hgN (by have := bwp.size; omega) (fun i hi => by cases hi; exact bwp.size)⟩
            · rename_i hne
              refine ⟨⟨_, _, _, _, _, _, _, _, ⟨hcont (by simpa using hne), HG2.out.andThen hgN (fun i hi => .inr hi)⟩, rfl⟩, hlt⟩
end Go.Proofs.Ytamcehfcjcmpmaa
