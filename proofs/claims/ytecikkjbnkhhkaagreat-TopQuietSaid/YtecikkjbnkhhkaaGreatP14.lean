/- A part of the walk. -/
import Derived.Test.YtecikkjbnkhhkaaGreatP03
import Derived.StillTailTactics
import Derived.Lib.BufferWrite
namespace Go.Proofs.YtecikkjbnkhhkaaGreat
open _root_.Go.Proofs.Tryz
set_option maxHeartbeats 4000000
set_option maxRecDepth 100000
section
open Go.RowKit
theorem qsg (n : Nat) : madeCells (Value.cells (.int .u8 0)) (n * 1) = (byC (zeros n)).toArray := by
 apply Array.ext_getElem?; intro j; unfold madeCells; by_cases hj : j < n
 · rw [Array.getElem?_map, Array.getElem?_range, if_pos (by omega), Option.map_some, List.getElem?_toArray, byC, List.getElem?_map, zeros, List.getElem?_replicate, if_pos hj]
   simp [Value.cells, Nat.mod_one]
 · rw [Array.getElem?_eq_none (by simp; omega), List.getElem?_toArray, List.getElem?_eq_none (by simp [byC, zeros]; omega)]
theorem mkB (n : Nat) (hn : n ≤ 1000000) (W : World) : (Instr.makeSlice 86 (.int .i64 (n : Int)) (.int .i64 (n : Int))).run prog W = .ok (.slice (some ⟨W.heap.size, 0, none⟩) n n) (W.alloc (.cells (byC (zeros n)).toArray 5)) := by
 obtain ⟨i0, hi, hz0, hz1, hz2⟩ := info_parts qcu; have h := run_make (P := prog) W 86 5 i0 _ underlying86 hi hz0 .i64 .i64 (n : Int) (n : Int) (by omega) (by omega) (by rw [hz2]; omega) (by omega); rw [hz1] at h; simp only [Int.toNat_natCast] at h; rw [h, qsg]
theorem BlkC.cells {w : World} {p : Nat} {t : TypeId} {b : BlkC} (h : w.heap[p]? = some (.cells b.enc.toArray t (0, 0))) : (w.cell? ⟨p, 0, none⟩ = some (.int .i64 b.cls) ∧ w.cell? ⟨p, 1, none⟩ = some (.int .i64 b.kind) ∧ w.cell? ⟨p, 2, none⟩ = some (.int .u64 (b.id : Int)) ∧ w.cell? ⟨p, 3, none⟩ = some (.int .u64 (b.ver : Int)) ∧ w.cell? ⟨p, 4, none⟩ = some (.int .u64 (b.ep : Int)) ∧ w.cell? ⟨p, 5, none⟩ = some (.string b.key) ∧ w.cell? ⟨p, 6, none⟩ = some (.string b.val)) :=
 ⟨cell_of_row w p 0 _ _ _ h, cell_of_row w p 1 _ _ _ h, cell_of_row w p 2 _ _ _ h, cell_of_row w p 3 _ _ _ h, cell_of_row w p 4 _ _ _ h, cell_of_row w p 5 _ _ _ h, cell_of_row w p 6 _ _ _ h⟩
theorem RowB.put1 {w : World} {b : Nat} {t : TypeId} {l : List UInt8} (h : RowB w b t l) (i : Nat) (x : UInt8) : RowB (w.setCell ⟨b, i, none⟩ (.int .u8 (x.toNat : Int))) b t (l.set i x) := by
 rw [RowB, heap_setCell_same w b i _ _ _ h]; congr 2; apply Array.ext_getElem?; intro j; rw [Array.getElem?_setIfInBounds, List.getElem?_toArray, List.getElem?_toArray, byC, byC, List.map_set, List.getElem?_set]; simp
theorem qm9 (b : BlkC) (data : List UInt8) (A : Option Addr) (c : Nat) (w : World) (hA : Arr byE 1 w w.heap.size A data) (h28 : 28 ≤ data.length) (_hmax : data.length ≤ 1000) (hc : data.length ≤ c) (hcm : c ≤ 9223372036854775807)
 (hv : b.val.size < 65536) (_hk : b.key.size < 256) (hid' : b.id < 18446744073709551616) (hver : b.ver < 18446744073709551616) (hep : b.ep < 18446744073709551616) :
 Calls prog 175 #[b.v, .slice A data.length c] w (qpi (qfy b data) w) := by
 have HA := hid hA; have HVV := hid (show b.v = .agg #[.int .i64 b.cls, .int .i64 b.kind, .int .u64 (b.id : Int), .int .u64 (b.ver : Int), .int .u64 (b.ep : Int), .string b.key, .string b.val] from rfl); clear hA; rw [HVV.out]; have MK : ∀ W, (Instr.makeSlice 86 (.int .i64 64) (.int .i64 64)).run prog W = .ok (.slice (some ⟨W.heap.size, 0, none⟩) 64 64) (W.alloc (.cells (byC (zeros 64)).toArray 5)) := fun W => mkB 64 (by omega) W
 obtain ⟨Z, hZ⟩ : ∃ Z, Z = (byC (zeros 64)).toArray := ⟨_, rfl⟩; rw [← hZ] at MK; go_enter func175, ntmps175; go_upto_region 2 with fail; generalize hw2 : World.alloc _ _ = w2; have b2 : Below w.heap.size w w2 := by rw [← hw2]; exact ((Below.refl _ _).alloc (Nat.le_refl _) _).alloc (by simp) _
 have RB2 : w2.heap[w.heap.size]? = some (.cells b.enc.toArray 203 (0, 0)) := by rw [← hw2, qa2, if_neg (by simp), qa2, if_pos rfl]; rfl
 have RR2 : RowB w2 (w.heap.size + 1) 5 (zeros 64) := by rw [RowB, ← hw2, qa2, if_pos (by simp)]
 have HB2 := hid b2; have HRB2 := hid RB2; have HRR2 := hid RR2; have hl2 := qa0 RB2; have hr2 := qa0 RR2; obtain ⟨q0, q1, q2, q3, q4, q5, q6⟩ := BlkC.cells RB2; clear hw2 b2 RB2 MK hZ; have u1 := qjn b.cls; have u2 := qjn b.kind; have u3 := qjn (b.key.size : Int); have z0 := RR2.cell (i := 0) (by simp [zeros]); have z1 := RR2.cell (i := 1) (by simp [zeros]); have z2 := RR2.cell (i := 2) (by simp [zeros]); have z3 := RR2.cell (i := 3) (by simp [zeros]); have f0 := frozen_of_row w2 _ 0 _ _ RR2; have f1 := frozen_of_row w2 _ 1 _ _ RR2; have f2 := frozen_of_row w2 _ 2 _ _ RR2; have f3 := frozen_of_row w2 _ 3 _ _ RR2; clear RR2; go_cut [] (fun wx => RowB wx (w.heap.size + 1) 5 (qsz b) ∧ (∀ j, j ≠ w.heap.size + 1 → wx.heap[j]? = w2.heap[j]?) ∧ Below w.heap.size w wx)
 case first =>
  go_region; all_goals
   go_wp2_with fail; go_meet; refine ⟨?_, fun j hj => ?_, ?_⟩
   · have e := ((((HRR2.out.put1 0 1).put1 1 (u8I b.cls)).put1 2 (u8I b.kind)).put1 3 (u8I b.key.size))
     exact e
   · show ((((w2.setCell _ _).setCell _ _).setCell _ _).setCell _ _).heap[j]? = w2.heap[j]?
     rw [Below.heap_setCell _ _ _ _ hj, Below.heap_setCell _ _ _ _ hj, Below.heap_setCell _ _ _ _ hj, Below.heap_setCell _ _ _ _ hj]
   · exact ((((HB2.out.setCell (p := ⟨w.heap.size + 1, 0, none⟩) (Nat.le_succ _) _).setCell (p := ⟨w.heap.size + 1, 1, none⟩) (Nat.le_succ _) _).setCell (p := ⟨w.heap.size + 1, 2, none⟩) (Nat.le_succ _) _).setCell (p := ⟨w.heap.size + 1, 3, none⟩) (Nat.le_succ _) _).drew
 case rest =>
  obtain ⟨RR, OO, BB⟩ := hcut; obtain ⟨w3, hw3⟩ : ∃ x, x = wc := ⟨_, rfl⟩; subst hw3; obtain ⟨L3, hL3⟩ : ∃ L, L = qsz b := ⟨_, rfl⟩; rw [← hL3] at RR; have HL3 := hid hL3; have HLN3 : Hid (L3.length = 64) := hid (by rw [hL3, qlr]); have HRR3 := hid RR; have HB3 := hid BB; have HRB3 := hid ((OO w.heap.size (by omega)).trans HRB2.out); clear z0 z1 z2 z3 f0 f1 f2 f3 q0 q1 q2 q3 q4 q5 q6 RR OO BB HRR2 HB2 HRB2 hl2 hr2 hL3 u1 u2 u3; obtain ⟨q0, q1, q2, q3, q4, q5, q6⟩ := BlkC.cells HRB3.out; have hl3 := qa0 HRB3.out; have hr3 := qa0 HRR3.out; go_wp2_with fail; have T4 := qfb w3 (w.heap.size + 1) _ L3 HRR3.out 4 2 (b.val.size) 64 (by omega) (by omega) (by rw [HLN3.out]; omega) (by rw [HLN3.out]; omega) (by omega) (by omega); rw [HLN3.out] at T4; refine T4.mono ?_; clear T4; rintro e w4 ⟨rfl, RR, OO, BB⟩; obtain ⟨L4, hL⟩ : ∃ L, L = putL L3 4 (b.val.size) 2 := ⟨_, rfl⟩; rw [← hL] at RR; have HL4 := hid hL; have HLN4 : Hid (L4.length = 64) := hid (by rw [hL, qb7, HLN3.out]); have HRR4 := hid RR; have HB4 := hid (HB3.out.trans (BB w.heap.size (by omega) HB3.out.size)); have HRB4 := hid ((OO w.heap.size hl3 (by omega)).trans HRB3.out); clear q0 q1 q2 q3 q4 q5 q6 RR OO BB hl3 hr3 hL; obtain ⟨q0, q1, q2, q3, q4, q5, q6⟩ := BlkC.cells HRB4.out; have hl4 := qa0 HRB4.out; have hr4 := qa0 HRR4.out; go_wp2_with fail; have T5 := qfb w4 (w.heap.size + 1) _ L4 HRR4.out 8 8 (b.id) 64 (by omega) (by omega) (by rw [HLN4.out]; omega) (by rw [HLN4.out]; omega) (by omega) (by omega); rw [HLN4.out] at T5; refine T5.mono ?_; clear T5; rintro e w5 ⟨rfl, RR, OO, BB⟩; obtain ⟨L5, hL⟩ : ∃ L, L = putL L4 8 (b.id) 8 := ⟨_, rfl⟩; rw [← hL] at RR; have HL5 := hid hL; have HLN5 : Hid (L5.length = 64) := hid (by rw [hL, qb7, HLN4.out]); have HRR5 := hid RR; have HB5 := hid (HB4.out.trans (BB w.heap.size (by omega) HB4.out.size)); have HRB5 := hid ((OO w.heap.size hl4 (by omega)).trans HRB4.out); clear q0 q1 q2 q3 q4 q5 q6 RR OO BB hl4 hr4 hL; obtain ⟨q0, q1, q2, q3, q4, q5, q6⟩ := BlkC.cells HRB5.out; have hl5 := qa0 HRB5.out; have hr5 := qa0 HRR5.out; go_wp2_with fail; have T6 := qfb w5 (w.heap.size + 1) _ L5 HRR5.out 16 8 (b.ver) 64 (by omega) (by omega) (by rw [HLN5.out]; omega) (by rw [HLN5.out]; omega) (by omega) (by omega); rw [HLN5.out] at T6; refine T6.mono ?_; clear T6; rintro e w6 ⟨rfl, RR, OO, BB⟩; obtain ⟨L6, hL⟩ : ∃ L, L = putL L5 16 (b.ver) 8 := ⟨_, rfl⟩; rw [← hL] at RR; have HL6 := hid hL; have HLN6 : Hid (L6.length = 64) := hid (by rw [hL, qb7, HLN5.out]); have HRR6 := hid RR; have HB6 := hid (HB5.out.trans (BB w.heap.size (by omega) HB5.out.size)); have HRB6 := hid ((OO w.heap.size hl5 (by omega)).trans HRB5.out); clear q0 q1 q2 q3 q4 q5 q6 RR OO BB hl5 hr5 hL; obtain ⟨q0, q1, q2, q3, q4, q5, q6⟩ := BlkC.cells HRB6.out; have hl6 := qa0 HRB6.out; have hr6 := qa0 HRR6.out; go_wp2_with fail; have T7 := qfb w6 (w.heap.size + 1) _ L6 HRR6.out 24 8 (b.ep) 64 (by omega) (by omega) (by rw [HLN6.out]; omega) (by rw [HLN6.out]; omega) (by omega) (by omega); rw [HLN6.out] at T7; refine T7.mono ?_; clear T7; rintro e w7 ⟨rfl, RR, OO, BB⟩; obtain ⟨L7, hL⟩ : ∃ L, L = putL L6 24 (b.ep) 8 := ⟨_, rfl⟩; rw [← hL] at RR; have HL7 := hid hL; have HLN7 : Hid (L7.length = 64) := hid (by rw [hL, qb7, HLN6.out]); have HRR7 := hid RR; have HB7 := hid (HB6.out.trans (BB w.heap.size (by omega) HB6.out.size)); have HRB7 := hid ((OO w.heap.size hl6 (by omega)).trans HRB6.out); clear q0 q1 q2 q3 q4 q5 q6 RR OO BB hl6 hr6 hL; obtain ⟨q0, q1, q2, q3, q4, q5, q6⟩ := BlkC.cells HRB7.out; have hl7 := qa0 HRB7.out; have hr7 := qa0 HRR7.out; go_wp2_with fail; have A32 : Arr byE 1 w7 w7.heap.size (some ⟨w.heap.size + 1, 0, none⟩) (L7.take 32) := HRR7.out.arr0.take 32; have T8 := qrr (L7.take 32) (some ⟨w.heap.size + 1, 0, none⟩) 64 w7 A32 (by rw [List.length_take]; omega) (by omega); rw [show (L7.take 32).length = 32 by rw [List.length_take, HLN7.out]; rfl] at T8; refine T8.mono ?_; clear T8 A32; rintro e w8 ⟨rfl, bb⟩; obtain ⟨s1, hs1⟩ : ∃ s, s = sumL 0 (L7.take 32) := ⟨_, rfl⟩; have hs1lt : s1 < 4294967296 := by rw [hs1]; exact qmv (by omega) _
  rw [← hs1]; have HS1 := hid hs1; have HB8 := hid (HB7.out.trans (bb.mono HB7.out.size)); have HRR8 := hid (HRR7.out.below bb hr7); have hr8 := qa0 HRR8.out; clear bb hs1 q0 q1 q2 q3 q4 q5 q6 HRB7; go_wp2_with fail; have T9 := qu3 s1 data A c w8 hs1lt ((HA.out.below HB8.out).more HB8.out.size) hc hcm; refine T9.mono ?_; clear T9; rintro e w9 ⟨rfl, bb⟩; obtain ⟨s2, hs2⟩ : ∃ s, s = sumL s1 data := ⟨_, rfl⟩; have hs2lt : s2 < 4294967296 := by rw [hs2]; exact qmv hs1lt _
  rw [← hs2]; have HS2 := hid hs2; have HB9 := hid (HB8.out.trans (bb.mono HB8.out.size)); have HRR9 := hid (HRR8.out.below bb hr8); have hr9 := qa0 HRR9.out; clear bb hs2; have w64 : IntKind.u64.wrap (s2 : Int) = (s2 : Int) := by rw [IntKind.wrap_u64]; omega
  go_wp2_with fail; have T10 := qfb w9 (w.heap.size + 1) _ L7 HRR9.out 32 4 s2 64 (by omega) (by omega) (by rw [HLN7.out]; omega) (by rw [HLN7.out]; omega) (by omega) (by omega); rw [HLN7.out] at T10; refine T10.mono ?_; clear T10; rintro e w10 ⟨rfl, RR, OO, BB⟩; obtain ⟨L10, hL⟩ : ∃ L, L = putL L7 32 s2 4 := ⟨_, rfl⟩; rw [← hL] at RR; have HL10 := hid hL; have HLN10 : Hid (L10.length = 64) := hid (by rw [hL, qb7, HLN7.out]); have HRR10 := hid RR; have HB10 := hid (HB9.out.trans (BB w.heap.size (by omega) HB9.out.size)); clear RR OO BB hL hr7 hl7 w64; have hr10 := qa0 HRR10.out; have hne : data ≠ [] := by intro h0; rw [h0] at h28; simp at h28
  go_wp2_with (refine qbd (m := data) (A := A) w10 rfl (.tmp 52) (.tmp 53) rfl (by first | rfl | simp [Act.eval]) (by first | rfl | simp [Act.eval]) ((HA.out.below HB10.out)) hne HRR10.out (by rw [HLN10.out]; omega) ?_; intro w11 R11 O11 B11); have HB11 := hid (B11 w.heap.size w HB10.out (by omega)); have HR11 := hid R11; clear R11 O11 B11; go_wp2_with fail; go_ret; have hfin : qbj L10 36 (data.take 28) = qfy b data := by rw [qfy, qsy, HL10.out, HS2.out, HS1.out, HL7.out, HL6.out, HL5.out, HL4.out, HL3.out]
  refine ⟨some ⟨w.heap.size + 1, 0, none⟩, 64, by rw [qcv b h28]; rfl, ?_, HB11.out⟩; have := HR11.out; rw [hfin] at this; exact this.of_own (by omega) (by rw [qcv b h28]) (by rw [qcv b h28]; omega)
end
section
open Go.RowKit
def qui (b : BlkC) (w : World) (e : Ending) (w' : World) : Prop := e = .returned (.bool (mayB b)) ∧ Below w.heap.size w w'
theorem qkl (b : BlkC) (w : World) (hk : b.key.size ≤ 1000000) (hv : b.val.size ≤ 1000000) : Calls prog 173 #[b.v] w (qui b w) := by
 have HVV := hid (show b.v = .agg #[.int .i64 b.cls, .int .i64 b.kind, .int .u64 (b.id : Int), .int .u64 (b.ver : Int), .int .u64 (b.ep : Int), .string b.key, .string b.val] from rfl); rw [HVV.out]; go_enter func173, ntmps173; go_upto_region 1 with fail; generalize hw1 : World.alloc w _ = w1; have b1 : Below w.heap.size w w1 := by rw [← hw1]; exact (Below.refl _ _).alloc (Nat.le_refl _) _
 have R1 : w1.heap[w.heap.size]? = some (.cells b.enc.toArray 203 (0, 0)) := by rw [← hw1]; exact (qa2 _ _ _).trans (if_pos rfl)
 have HB1 := hid b1; have HR1 := hid R1; obtain ⟨q0, q1, q2, q3, q4, q5, q6⟩ := BlkC.cells R1; have hl1 := qa0 R1; clear hw1 b1 R1; go_wp2_with fail; refine (qaw b.cls w1).mono ?_; rintro e w2 ⟨rfl, rfl⟩; by_cases hs : qa9 b.cls = 0
 · have hs' : ((qa9 b.cls : Nat) : Int) = 0 := by omega
   rw [hs']; go_wp2_with fail; go_ret; exact ⟨by rw [mayB, if_pos hs]; rfl, HB1.out⟩
 have HS := hid hs; have hsb : (((qa9 b.cls : Nat) : Int) == 0) = false := by rw [beq_eq_false_iff_ne]; omega
 have i1 : IntKind.i64.wrap ((b.key.size : Int) + (b.val.size : Int)) = (b.key.size : Int) + (b.val.size : Int) := Go.IntWalk.i64_in _ (by omega); have T1 := fun W => qfv b.id W
 have T2 := fun W => qfv b.ver W
 have T3 := fun W => qfv b.ep W
 obtain ⟨n1, hn1⟩ : ∃ n, n = qau b.id := ⟨_, rfl⟩; obtain ⟨n2, hn2⟩ : ∃ n, n = qau b.ver := ⟨_, rfl⟩; obtain ⟨n3, hn3⟩ : ∃ n, n = qau b.ep := ⟨_, rfl⟩; rw [← hn1] at T1; rw [← hn2] at T2; rw [← hn3] at T3; have HN := hid (And.intro hn1 (And.intro hn2 hn3)); have HT1 := hid T1; have HT2 := hid T2; have HT3 := hid T3; clear hn1 hn2 hn3 hs T1 T2 T3; obtain ⟨sp, hsp⟩ : ∃ sp, sp = ((qa9 b.cls : Nat) : Int) := ⟨_, rfl⟩; rw [← hsp] at hsb ⊢; clear hsp; by_cases k0 : b.kind = 0
 · have K0 := hid k0
   have M0 : Hid (mayB b = decide (b.id = 0 ∧ b.ver = 0 ∧ b.ep = 0 ∧ b.key.toList = [] ∧ b.val.toList = [])) := hid (by rw [mayB, if_neg HS.out, if_pos k0]); rw [k0] at q1 ⊢; clear HT1 HT2 HT3 HN i1; go_wp2_with fail; all_goals
    go_ret; refine ⟨?_, HB1.out⟩; rw [M0.out]; first
     | rw [decide_eq_true (by refine ⟨?_, ?_, ?_, ?_, ?_⟩ <;> assumption)]; rfl
     | rw [decide_eq_false (fun h => by obtain ⟨h1, h2, h3, h4, h5⟩ := h; first | exact absurd h1 (by assumption) | exact absurd h2 (by assumption) | exact absurd h3 (by assumption) | exact absurd h4 (by assumption) | exact absurd h5 (by assumption))]; rfl
 by_cases k1 : b.kind = 1
 · have K0 := hid k0
   have K1 := hid k1; rw [k1] at q1 ⊢; clear k0 k1; by_cases hk1 : b.key.size < 1
   · have h1 : (b.key.size : Int) < 1 := by omega
     have M0 : Hid (mayB b = false) := hid (by rw [mayB, if_neg HS.out, if_neg K0.out, if_pos K1.out, if_pos (.inl hk1)]); clear HT1 HT2 HT3 HN hk1; go_wp2_with fail; go_ret; exact ⟨by rw [M0.out]; rfl, HB1.out⟩
   have h1 : ¬ (b.key.size : Int) < 1 := by omega
   by_cases hk16 : 16 < b.key.size
   · have h2 : (16 : Int) < (b.key.size : Int) := by omega
     have M0 : Hid (mayB b = false) := hid (by rw [mayB, if_neg HS.out, if_neg K0.out, if_pos K1.out, if_pos (.inr hk16)]); clear HT1 HT2 HT3 HN hk16 hk1; go_wp2_with fail; go_ret; exact ⟨by rw [M0.out]; rfl, HB1.out⟩
   have h2 : ¬ (16 : Int) < (b.key.size : Int) := by omega
   have i2 : IntKind.i64.wrap ((b.key.size : Int) + (b.val.size : Int) - (b.key.size : Int)) = (b.val.size : Int) := by rw [show (b.key.size : Int) + (b.val.size : Int) - (b.key.size : Int) = (b.val.size : Int) by omega]; exact Go.IntWalk.i64_in _ (by omega)
   by_cases hv4 : 400 < b.val.size
   · have h3 : (400 : Int) < (b.val.size : Int) := by omega
     have M0 : Hid (mayB b = false) := hid (by rw [mayB, if_neg HS.out, if_neg K0.out, if_pos K1.out, if_neg (by omega), if_pos (.inl hv4)]); clear HT1 HT2 HT3 HN hk16 hk1 hv4; go_wp2_with fail; go_quiet (fail); go_wp2_with fail; go_ret; exact ⟨by rw [M0.out]; rfl, qa1 HB1.out _⟩
   have h3 : ¬ (400 : Int) < (b.val.size : Int) := by omega
   by_cases hn : qbh ((b.key.size : Int) + (b.val.size : Int)) = b.cls
   · have M0 : Hid (mayB b = (qau b.id && qau b.ver && qau b.ep)) := hid (by rw [mayB, if_neg HS.out, if_neg K0.out, if_pos K1.out, if_neg (by omega), if_neg (by omega)])
     have hnb : (qbh ((b.key.size : Int) + (b.val.size : Int)) != b.cls) = false := by simp [hn]
     clear hk16 hk1 hv4; have M1 : Hid (mayB b = (n1 && n2 && n3)) := hid (by rw [M0.out, HN.out.1, HN.out.2.1, HN.out.2.2]); clear M0; go_wp2_with fail; go_quiet (exact Calls.quiet_of_same (qf5 _ _)); go_wp2_with fail; refine (HT1.out _).mono ?_; rintro e w3 ⟨rfl, rfl⟩; cases n1 with
     | false =>
      go_wp2_with fail; go_ret; exact ⟨by rw [M1.out]; rfl, qa1 HB1.out _⟩
     | true =>
      go_wp2_with fail; refine (HT2.out _).mono ?_; rintro e w4 ⟨rfl, rfl⟩; cases n2 with
      | false =>
       go_wp2_with fail; go_ret; exact ⟨by rw [M1.out]; rfl, qa1 HB1.out _⟩
      | true =>
       go_wp2_with fail; refine (HT3.out _).mono ?_; rintro e w5 ⟨rfl, rfl⟩; go_wp2_with fail; go_ret; exact ⟨by rw [M1.out]; cases n3 <;> rfl, qa1 HB1.out _⟩
   · have M0 : Hid (mayB b = false) := hid (by rw [mayB, if_neg HS.out, if_neg K0.out, if_pos K1.out, if_neg (by omega), if_pos (.inr hn)])
     have hnb : (qbh ((b.key.size : Int) + (b.val.size : Int)) != b.cls) = true := by simp [hn]
     clear HT1 HT2 HT3 HN hk16 hk1 hv4; go_wp2_with fail; go_quiet (exact Calls.quiet_of_same (qf5 _ _)); go_wp2_with fail; go_ret; exact ⟨by rw [M0.out]; rfl, qa1 HB1.out _⟩
 by_cases k2 : b.kind = 2
 · have K0 := hid k0
   have K1 := hid k1; have K2 := hid k2; rw [k2] at q1 ⊢; clear k0 k1 k2; by_cases hk0 : b.key.size = 0
   · have hkt : b.key.toList = [] := by rw [Lib.toList_data]; exact List.eq_nil_of_length_eq_zero (by rw [Array.length_toList]; exact hk0)
     have hke : b.key = ByteArray.empty := by apply qbu; rw [hkt, Lib.toList_data]; rfl
     have hkz : (b.key.size : Int) = 0 := by omega
     have i3 : IntKind.i64.wrap (b.val.size : Int) = (b.val.size : Int) := Go.IntWalk.i64_in _ (by omega); have hsum : (b.key.size : Int) + (b.val.size : Int) = (b.val.size : Int) := by omega
     rw [hsum] at i1; by_cases hv4 : 400 < b.val.size
     · have h3 : (400 : Int) < (b.val.size : Int) := by omega
       have M0 : Hid (mayB b = false) := hid (by rw [mayB, if_neg HS.out, if_neg K0.out, if_neg K1.out, if_pos K2.out, if_pos (.inr (.inl hv4))]); clear HT1 HT2 HT3 HN hv4; go_wp2_with fail; go_quiet (fail); go_wp2_with fail; go_ret; exact ⟨by rw [M0.out]; rfl, qa1 HB1.out _⟩
     have h3 : ¬ (400 : Int) < (b.val.size : Int) := by omega
     by_cases hn : qbh (b.val.size : Int) = b.cls
     · have M0 : Hid (mayB b = (qau b.id && qau b.ver && qau b.ep)) := hid (by rw [mayB, if_neg HS.out, if_neg K0.out, if_neg K1.out, if_pos K2.out, if_neg (by omega)])
       have hnb : (qbh (b.val.size : Int) != b.cls) = false := by simp [hn]
       clear hv4; have M1 : Hid (mayB b = (n1 && n2 && n3)) := hid (by rw [M0.out, HN.out.1, HN.out.2.1, HN.out.2.2]); clear M0; go_wp2_with fail; go_quiet (exact Calls.quiet_of_same (qf5 _ _)); go_wp2_with fail; refine (HT1.out _).mono ?_; rintro e w3 ⟨rfl, rfl⟩; cases n1 with
       | false =>
        go_wp2_with fail; go_ret; exact ⟨by rw [M1.out]; rfl, qa1 HB1.out _⟩
       | true =>
        go_wp2_with fail; refine (HT2.out _).mono ?_; rintro e w4 ⟨rfl, rfl⟩; cases n2 with
        | false =>
         go_wp2_with fail; go_ret; exact ⟨by rw [M1.out]; rfl, qa1 HB1.out _⟩
        | true =>
         go_wp2_with fail; refine (HT3.out _).mono ?_; rintro e w5 ⟨rfl, rfl⟩; go_wp2_with fail; go_ret; exact ⟨by rw [M1.out]; cases n3 <;> rfl, qa1 HB1.out _⟩
     · have M0 : Hid (mayB b = false) := hid (by rw [mayB, if_neg HS.out, if_neg K0.out, if_neg K1.out, if_pos K2.out, if_pos (.inr (.inr hn))])
       have hnb : (qbh (b.val.size : Int) != b.cls) = true := by simp [hn]
       clear HT1 HT2 HT3 HN hv4; go_wp2_with fail; go_quiet (exact Calls.quiet_of_same (qf5 _ _)); go_wp2_with fail; go_ret; exact ⟨by rw [M0.out]; rfl, qa1 HB1.out _⟩
   · have hkt : ¬ b.key.toList = [] := fun h0 => hk0 (by rw [Lib.toList_data] at h0; show b.key.data.size = 0; rw [← Array.length_toList, h0]; rfl)
     have M0 : Hid (mayB b = false) := hid (by rw [mayB, if_neg HS.out, if_neg K0.out, if_neg K1.out, if_pos K2.out, if_pos (.inl hk0)]); have hktb : (b.key.toList == []) = false := by rw [beq_eq_false_iff_ne]; exact hkt
     clear HT1 HT2 HT3 HN; go_wp2_with fail; go_quiet (fail); go_wp2_with fail; go_ret; exact ⟨by rw [M0.out]; rfl, qa1 HB1.out _⟩
 by_cases k3 : b.kind = 3
 · have K0 := hid k0
   have K1 := hid k1; have K2 := hid k2; have K3 := hid k3; rw [k3] at q1 ⊢; clear k0 k1 k2 k3; by_cases hz : b.key.size + b.val.size = 0
   · have hzi : (b.key.size : Int) + (b.val.size : Int) = 0 := by omega
     by_cases hc : b.cls = 0
     · have M0 : Hid (mayB b = (qau b.id && qau b.ver && qau b.ep)) := hid (by rw [mayB, if_neg HS.out, if_neg K0.out, if_neg K1.out, if_neg K2.out, if_pos K3.out, if_neg (by omega)])
       rw [hc] at q0; have M1 : Hid (mayB b = (n1 && n2 && n3)) := hid (by rw [M0.out, HN.out.1, HN.out.2.1, HN.out.2.2]); clear M0; go_wp2_with fail; refine (HT1.out _).mono ?_; rintro e w3 ⟨rfl, rfl⟩; cases n1 with
       | false =>
        go_wp2_with fail; go_ret; exact ⟨by rw [M1.out]; rfl, HB1.out⟩
       | true =>
        go_wp2_with fail; refine (HT2.out _).mono ?_; rintro e w4 ⟨rfl, rfl⟩; cases n2 with
        | false =>
         go_wp2_with fail; go_ret; exact ⟨by rw [M1.out]; rfl, HB1.out⟩
        | true =>
         go_wp2_with fail; refine (HT3.out _).mono ?_; rintro e w5 ⟨rfl, rfl⟩; go_wp2_with fail; go_ret; exact ⟨by rw [M1.out]; cases n3 <;> rfl, HB1.out⟩
     · have M0 : Hid (mayB b = false) := hid (by rw [mayB, if_neg HS.out, if_neg K0.out, if_neg K1.out, if_neg K2.out, if_pos K3.out, if_pos (.inr hc)])
       clear HT1 HT2 HT3 HN; go_wp2_with fail; go_ret; exact ⟨by rw [M0.out]; rfl, HB1.out⟩
   · have hzi : ¬ (b.key.size : Int) + (b.val.size : Int) = 0 := by omega
     have M0 : Hid (mayB b = false) := hid (by rw [mayB, if_neg HS.out, if_neg K0.out, if_neg K1.out, if_neg K2.out, if_pos K3.out, if_pos (.inl hz)]); clear HT1 HT2 HT3 HN; go_wp2_with fail; go_ret; exact ⟨by rw [M0.out]; rfl, HB1.out⟩
 have M0 : Hid (mayB b = false) := hid (by rw [mayB, if_neg HS.out, if_neg k0, if_neg k1, if_neg k2, if_neg k3]); clear HT1 HT2 HT3 HN; go_wp2_with fail; go_ret; exact ⟨by rw [M0.out]; rfl, HB1.out⟩
end
section
open Go.RowKit
theorem qnx (w : World) {b off dLen dCap : Nat} {m : ByteArray} {t : TypeId} {l : List UInt8} (row : RowB w b t l) (hle : m.size ≤ dLen) (hfit : off + dLen ≤ l.length) : ∃ w', (∀ ty, (Builtin.copy_ #[86, 9] ty #[.slice (some ⟨b, off, none⟩) dLen dCap, .string m]).run prog w = .ok (.int .i64 (m.size : Int)) w') ∧ RowB w' b t (qbj l off (bl m)) ∧ (∀ k, k ≠ b → w'.heap[k]? = w.heap[k]?) ∧ ∀ lo w0, Below lo w0 w → lo ≤ b → Below lo w0 w' := by
 have hr := fun ty => Lib.run_copy_row_string (P := prog) w 86 9 ty 5 b off dLen dCap m (byC l).toArray t underlying86 (by
  have := qcu
  cases hq : prog.info? 5 with
  | none => rw [hq] at this; cases this
  | some i => rw [hq] at this; simp at this; simp [this]) row hle (by rw [List.size_toArray, qad]; omega)
 have e : ((byC l).toArray.toList.take off ++ Lib.byteCells m.data.toList ++ (byC l).toArray.toList.drop (off + m.size)).toArray = (byC (qbj l off (bl m))).toArray := by
  have hm : Lib.byteCells m.data.toList = byC (bl m) := rfl; rw [hm]; simp [byC, qbj, qfc]
 rw [e] at hr; exact ⟨_, hr, setRow_heap w b _ _ t (0, 0) row, fun k hk => setRow_other w b k _ hk, fun lo w0 hb hlo => below_setRow hb hlo _⟩
theorem qnd (n : Nat) (hn : n ≤ 1000000) (W : World) : ∃ w', (Instr.makeSlice 86 (.int .i64 (n : Int)) (.int .i64 (n : Int))).run prog W = .ok (.slice (some ⟨W.heap.size, 0, none⟩) n n) w' ∧ RowB w' W.heap.size 5 (zeros n) ∧ Below W.heap.size W w' ∧ w'.heap.size = W.heap.size + 1 :=
 ⟨_, mkB n hn W, (qa2 _ _ _).trans (if_pos rfl), (Below.refl _ _).alloc (Nat.le_refl _) _, by simp⟩
theorem qeg {b : BlkC} (h : mayB b = true) : ¬ qa9 b.cls = 0 ∧ b.key.size ≤ 16 ∧ b.val.size ≤ 400 ∧ b.key.size + b.val.size ≤ capI b.cls ∧ b.id < 18446744073709551616 ∧ b.ver < 18446744073709551616 ∧ b.ep < 18446744073709551616 := by
 have need : ∀ n : Nat, ∀ c : Int, qbh (n : Int) = c → ¬ qa9 c = 0 → n ≤ capI c := fun n c hc hs => by
  unfold qbh at hc; rw [if_neg (by omega)] at hc; have h4 := qm5 c; rcases h4 with rfl | rfl | rfl | rfl | h4
  · repeat' split at hc
    all_goals first | omega | (simp [capI]; omega)
  · repeat' split at hc
    all_goals first | omega | (simp [capI]; omega)
  · repeat' split at hc
    all_goals first | omega | (simp [capI]; omega)
  · repeat' split at hc
    all_goals first | omega | (simp [capI]; omega)
  · exact absurd (qe1 h4) hs
 have num : ∀ v, qau v = true → v < 18446744073709551616 := fun v hv => by
  simp [qau] at hv; omega
 have tz : ∀ s : ByteArray, s.toList = [] → s.size = 0 := fun s hs => by
  rw [Lib.toList_data] at hs; show s.data.size = 0
  rw [← Array.length_toList, hs]; rfl
 unfold mayB at h; split at h
 · cases h
 · rename_i hs
   refine ⟨hs, ?_⟩; split at h
   · simp only [decide_eq_true_eq] at h
     obtain ⟨h1, h2, h3, h4, h5⟩ := h; have := tz _ h4; have := tz _ h5; exact ⟨by omega, by omega, by omega, by omega, by omega, by omega⟩
   · split at h
     · split at h
       · cases h
       · split at h
         · cases h
         · rename_i q1 q2
           simp only [Bool.and_eq_true] at h; have := need (b.key.size + b.val.size) b.cls (by
            have : ¬ (qbh ((b.key.size : Int) + b.val.size) ≠ b.cls) := fun h0 => q2 (.inr h0)
            rw [Int.natCast_add]
            exact Classical.not_not.1 this) hs
           exact ⟨by omega, by omega, this, num _ h.1.1, num _ h.1.2, num _ h.2⟩
     · split at h
       · split at h
         · cases h
         · rename_i q1
           simp only [Bool.and_eq_true] at h; have := need b.val.size b.cls (by
            have : ¬ (qbh (b.val.size : Int) ≠ b.cls) := fun h0 => q1 (.inr (.inr h0))
            exact Classical.not_not.1 this) hs
           exact ⟨by omega, by omega, by omega, num _ h.1.1, num _ h.1.2, num _ h.2⟩
       · split at h
         · split at h
           · cases h
           · rename_i q1
             simp only [Bool.and_eq_true] at h; exact ⟨by omega, by omega, by omega, num _ h.1.1, num _ h.1.2, num _ h.2⟩
         · cases h
end
section
open Go.RowKit
theorem qtt (a b : ByteArray) : bl (a ++ b) = bl a ++ bl b := by simp [bl]
theorem qfa (c : Int) (h : ¬ qa9 c = 0) : capI c = 28 + 63 * (qa9 c - 1) ∧ 1 ≤ qa9 c ∧ qa9 c ≤ 8 := by
 rcases qm5 c with rfl | rfl | rfl | rfl | h4
 · simp [capI, qa9]
 · simp [capI, qa9]
 · simp [capI, qa9]
 · simp [capI, qa9]
 · exact absurd (qe1 h4) h
theorem qhu {b : BlkC} (_h : mayB b = true) : (qc6 b).length = capI b.cls := by
 rw [qc6, qc1, zeros, List.length_replicate]; rw [zeros, List.length_replicate, List.length_take]; omega
theorem qr1 (b : BlkC) (w : World) (hk : b.key.size ≤ 1000000) (hv : b.val.size ≤ 1000000) (h : mayB b = false) : Calls prog 132 #[b.v] w fun e w' => e = .returned (.tuple #[.slice none 0 0, .int .i64 3]) ∧ Below w.heap.size w w' := by
 have HVV := hid (show b.v = .agg #[.int .i64 b.cls, .int .i64 b.kind, .int .u64 (b.id : Int), .int .u64 (b.ver : Int), .int .u64 (b.ep : Int), .string b.key, .string b.val] from rfl); have TM := fun W => qkl b W hk hv
 rw [HVV.out] at TM ⊢; have HTM := hid TM; have HM := hid h; clear TM h; go_enter func132, ntmps132; go_upto_region 1 with fail; generalize hw1 : World.alloc w _ = w1; have b1 : Below w.heap.size w w1 := by rw [← hw1]; exact (Below.refl _ _).alloc (Nat.le_refl _) _
 have R1 : w1.heap[w.heap.size]? = some (.cells b.enc.toArray 203 (0, 0)) := by rw [← hw1]; exact (qa2 _ _ _).trans (if_pos rfl)
 have HB1 := hid b1; obtain ⟨q0, q1, q2, q3, q4, q5, q6⟩ := BlkC.cells R1; have hl1 := qa0 R1; clear hw1 b1 R1; go_wp2_with fail; refine (HTM.out w1).mono ?_; rintro e w2 ⟨rfl, hb⟩; rw [HM.out]; have HB2 := hid (HB1.out.trans (hb.mono HB1.out.size)); clear hb; go_wp2_with fail; refine bodyPost_ret (v := .tuple #[.slice none 0 0, .int .i64 3]) (by simp [results, results132]) rfl ⟨rfl, HB2.out⟩
def qxv (b : BlkC) (w : World) (e : Ending) (w' : World) : Prop := ∃ A c, e = .returned (.tuple #[.slice A (encB b).length c, .int .i64 0]) ∧ Own byE 5 1 w' w.heap.size A c (encB b) ∧ Below w.heap.size w w'
theorem qhz (b : BlkC) (w : World) (h : mayB b = true) : Calls prog 132 #[b.v] w (qxv b w) := by
 obtain ⟨r1, r2, r3, r4, r5, r6, r7⟩ := qeg h; obtain ⟨cs1, cs2, cs3⟩ := qfa b.cls r1; have HDL := hid (qhu h); have HVV := hid (show b.v = .agg #[.int .i64 b.cls, .int .i64 b.kind, .int .u64 (b.id : Int), .int .u64 (b.ver : Int), .int .u64 (b.ep : Int), .string b.key, .string b.val] from rfl); have TM := fun W => qkl b W (by omega) (by omega)
 have TH := fun (A : Option Addr) (c : Nat) (W : World) (hA : Arr byE 1 W W.heap.size A (qc6 b)) (hc : (qc6 b).length ≤ c) (hcm : c ≤ 9223372036854775807) => qm9 b (qc6 b) A c W hA (by rw [HDL.out]; omega) (by rw [HDL.out]; omega) hc hcm (by omega) (by omega) r5 r6 r7
 rw [HVV.out] at TM TH ⊢; have HTM := hid TM; have HTH := hid TH; have HM := hid h; obtain ⟨m, hm⟩ : ∃ m, m = qa9 b.cls - 1 := ⟨_, rfl⟩; have hspan : qa9 b.cls = m + 1 := by omega
 obtain ⟨n, hn⟩ : ∃ n, n = capI b.cls := ⟨_, rfl⟩; have hnm : n = 28 + 63 * m := by omega
 have hm7 : m ≤ 7 := by omega
 have HNM := hid hnm; have hn500 : n ≤ 1000 := by omega
 have HN := hid hn; have HSP := hid hspan; have HR4 : Hid (b.key.size + b.val.size ≤ n) := hid (by omega); have hdl : Hid ((qc6 b).length = n) := hid (by rw [HDL.out, hn]); have MKn : ∀ W, (Instr.makeSlice 86 (.int .i64 (n : Int)) (.int .i64 (n : Int))).run prog W = .ok (.slice (some ⟨W.heap.size, 0, none⟩) n n) (W.alloc (.cells (byC (zeros n)).toArray 5)) := fun W => mkB n (by omega) W
 obtain ⟨Z, hZ⟩ : ∃ Z, Z = (byC (zeros n)).toArray := ⟨_, rfl⟩; rw [← hZ] at MKn; have HZ := hid hZ; clear TM TH h hm hspan hn hnm hZ cs1 cs2 cs3 r1 r2 r3 r4 r5 r6 r7; go_enter func132, ntmps132; go_upto_region 1 with fail; generalize hw1 : World.alloc w _ = w1; have b1 : Below w.heap.size w w1 := by rw [← hw1]; exact (Below.refl _ _).alloc (Nat.le_refl _) _
 have R1 : w1.heap[w.heap.size]? = some (.cells b.enc.toArray 203 (0, 0)) := by rw [← hw1]; exact (qa2 _ _ _).trans (if_pos rfl)
 have HB1 := hid b1; have HR1 := hid R1; obtain ⟨q0, q1, q2, q3, q4, q5, q6⟩ := BlkC.cells R1; have hl1 := qa0 R1; clear hw1 b1 R1; go_wp2_with fail; refine (HTM.out w1).mono ?_; rintro e w2 ⟨rfl, hb⟩; rw [HM.out]; have HB2 := hid (HB1.out.trans (hb.mono HB1.out.size)); have HR2 := hid ((hb.block _ hl1).trans HR1.out); clear hb q0 q1 q2 q3 q4 q5 q6 hl1; obtain ⟨q0, q1, q2, q3, q4, q5, q6⟩ := BlkC.cells HR2.out; have hl2 := qa0 HR2.out; go_wp2_with fail; refine (qo0 b.cls w2).mono ?_; rintro e w3 ⟨rfl, rfl⟩; rw [← HN.out]; have RZ : RowB (w3.alloc (.cells Z 5)) w3.heap.size 5 (zeros n) := by rw [RowB, HZ.out]; exact (qa2 _ _ _).trans (if_pos rfl)
 have HRZ := hid RZ; clear RZ; obtain ⟨w4, HCP, R4, O4, B4⟩ := qnx (dCap := n) (dLen := n) (off := 0) (m := b.key ++ b.val) _ HRZ.out (by rw [ByteArray.size_append]; exact HR4.out) (by rw [zeros, List.length_replicate, Nat.zero_add]; exact Nat.le_refl _); have HR4b := hid ((O4 w.heap.size (by omega)).trans ((Below.heap_alloc _ _ _ hl2).trans HR2.out)); obtain ⟨p0, p1, p2, p3, p4, p5, p6⟩ := BlkC.cells HR4b.out; have hl4 := qa0 HR4b.out; have hcat : b.key.size + b.val.size ≤ 9223372036854775807 := by have := HR4.out; omega
 have HO4 := hid O4; have HB4' := hid B4; have HRR4' := hid R4; clear O4 B4 R4; go_wp2_with fail; have R4 := HRR4'.out; have O4 := HO4.out; have B4 := HB4'.out; have HDB : Hid (qbj (zeros n) 0 (bl (b.key ++ b.val)) = qc6 b) := hid (by rw [qc6, ← HN.out, qtt, List.take_of_length_le (by have := HR4.out; rw [List.length_append, qfc, qfc]; omega)]); rw [HDB.out] at R4; have HRR4 := hid R4; have hz3 : w.heap.size ≤ w3.heap.size := HB2.out.size; have HB4 := hid (B4 w.heap.size w (HB2.out.alloc hz3 _) hz3); have hr4 := qa0 HRR4.out; have TT := HTH.out (some ⟨w3.heap.size, 0, none⟩) n w4 HRR4.out.arr0 (by rw [hdl.out]; exact Nat.le_refl _) (by omega); rw [hdl.out] at TT; clear R4 O4 B4 q0 q1 q2 q3 q4 q5 q6 MKn HTM HTH hl2; refine TT.mono ?_; clear TT; rintro e w5 ⟨A5, c5, rfl, hown, hb⟩; have hhl : (qfy b (qc6 b)).length = 64 := qcv b (by rw [hdl.out]; have := HNM.out; omega); have HB5 := hid (HB4.out.trans (hb.mono HB4.out.size)); have HO5 := hid hown; have HRR5 := hid (HRR4.out.below hb hr4); have HR5b := hid ((hb.block _ hl4).trans HR4b.out); have q0 := (hb.cell (p := ⟨w.heap.size, 0, none⟩) hl4).trans p0; have hl5 := qa0 HR5b.out; have hr5 := qa0 HRR5.out; clear hown hb p0 p1 p2 p3 p4 p5 p6 hl4 hr4; by_cases hm0 : m = 0
 · have hn28 : n = 28 := by have := HNM.out; omega
   have hs1 : qa9 b.cls = 1 := by have := HSP.out; omega
   have HE : Hid (encB b = qfy b (qc6 b)) := hid (by rw [encB, hs1]; simp [ql0]); subst hn28; go_wp2_with fail; refine (qaw b.cls w5).mono ?_; rintro e w6 ⟨rfl, rfl⟩; rw [hs1]; go_wp2_with fail; go_loopw [5, 31] (fun v5 v31 wr => v31 = .int .i64 0 ∧ v5 = .slice A5 (qfy b (qc6 b)).length c5 ∧ wr = w6) (fun _ _ _ => 0)
   case atStart => exact ⟨rfl, by rw [hhl], rfl⟩
   case round =>
    obtain ⟨rfl, rfl, rfl⟩ := hrel; go_wp2_with fail; refine bodyPost_ret (v := .tuple #[.slice A5 (encB b).length c5, .int .i64 0]) (by rw [HE.out]; simp [results, results132]) rfl ⟨A5, c5, rfl, ?_, HB5.out⟩; rw [HE.out]; exact HO5.out.lower HB4.out.size
 · have h28n : 28 ≤ n := by have := HNM.out; omega
   have h28 : (28 : Int) ≤ (n : Int) := by omega
   have hne28 : ¬ n = 28 := by have := HNM.out; omega
   go_wp2_with fail; refine (qaw b.cls w5).mono ?_; rintro e w6 ⟨rfl, rfl⟩; rw [HSP.out]; have i1 : IntKind.i64.wrap (((m + 1 : Nat) : Int) - 1) = (m : Int) := by rw [show ((m + 1 : Nat) : Int) - 1 = (m : Int) by omega]; exact Go.IntWalk.i64_in _ (by omega)
   go_wp2_with fail; have hz45 : w3.heap.size < w4.heap.size := qa0 HRR4.out; have hz56 : w4.heap.size ≤ w6.heap.size := by
    rcases HO5.out.lt with h0 | ⟨_, _, _, h1, h2⟩
    · have := HO5.out.len; rw [h0, hhl] at this; omega
    · omega
   go_loopw [4, 5, 31] (fun v4 v5 v31 wr => ∃ (k : Nat) (A4 : Option Addr) (q : Nat) (A : Option Addr) (c : Nat) (N : List UInt8), k ≤ m ∧ v31 = .int .i64 k ∧ v4 = .slice A4 q q ∧ Hid (q = 63 * (m - k)) ∧ Hid (k < m → A4 = some ⟨w3.heap.size, 28 + 63 * k, none⟩) ∧ v5 = .slice A N.length c ∧ Hid (N = qfy b (qc6 b) ++ ql0 (qc6 b) k) ∧ Hid (N.length = 64 + 64 * k) ∧ Own byE 5 1 wr w4.heap.size A c N ∧ RowB wr w3.heap.size 5 (qc6 b) ∧ Below w.heap.size w wr ∧ w6.heap.size ≤ wr.heap.size) (fun _ _ v31 _ => m - (intOf v31).toNat)
   case atStart => exact ⟨0, _, n - 28, A5, c5, qfy b (qc6 b), by omega, rfl, rfl, hid (by have := HNM.out; omega), hid fun _ => rfl, by rw [hhl], hid (by simp [ql0]), hid hhl, HO5.out, HRR5.out, HB5.out, Nat.le_refl _⟩
   case round =>
    obtain ⟨k, A4, q, A, c, N, hk, rfl, rfl, HQ, HA4, rfl, HN0, HNL, hown, hrow, hb, hsz⟩ := hrel; have HO := hid hown; have HR := hid hrow; have HB := hid hb; by_cases hlt : k < m
    · have hki : (k : Int) < (m : Int) := by omega
      obtain rfl := HA4.out hlt; have hwz := hb.size; have hrl := qa0 hrow; obtain ⟨w7, MK, R7, B7, S7⟩ := qnd 64 (by omega) wr; have MK' : (Instr.makeSlice 86 (.int .i64 64) (.int .i64 64)).run prog wr = .ok (.slice (some ⟨wr.heap.size, 0, none⟩) 64 64) w7 := MK; have z0 := R7.cell (i := 0) (by simp [zeros]); have f0 := frozen_of_row w7 _ 0 _ _ R7; have hl7 := qa0 R7; have R8 : RowB (w7.setCell ⟨wr.heap.size, 0, none⟩ (.int .u8 2)) wr.heap.size 5 ((zeros 64).set 0 2) := R7.put1 0 2; have HR8 := hid R8; have HD8 : Hid (RowB (w7.setCell ⟨wr.heap.size, 0, none⟩ (.int .u8 2)) w3.heap.size 5 (qc6 b)) := hid (((Below.heap_setCell w7 _ _ _ (by show w3.heap.size ≠ wr.heap.size; omega)).trans (B7.block _ hrl)).trans hrow); have HO8 : Hid (Own byE 5 1 (w7.setCell ⟨wr.heap.size, 0, none⟩ (.int .u8 2)) w4.heap.size A c N) := hid (hown.keep fun b' _ _ _ hlt' => (Below.heap_setCell w7 _ _ _ (by show b' ≠ wr.heap.size; omega)).trans (B7.block _ hlt')); have H8 : Hid (∀ j, j < wr.heap.size → (w7.setCell ⟨wr.heap.size, 0, none⟩ (.int .u8 2)).heap[j]? = wr.heap[j]?) := hid fun j hj => (Below.heap_setCell w7 _ _ _ (by show j ≠ wr.heap.size; omega)).trans (B7.block _ hj)
      have HB8 : Hid (Below w.heap.size w (w7.setCell ⟨wr.heap.size, 0, none⟩ (.int .u8 2))) := hid ((hb.trans (B7.mono hwz)).setCell (p := ⟨wr.heap.size, 0, none⟩) hwz _); have hdd : Hid (((qc6 b).drop (28 + 63 * k)).length = q) := hid (by rw [List.length_drop, hdl.out, HQ.out]; have := HNM.out; omega); have hq63 : 63 ≤ q := by rw [HQ.out]; omega
      have hq63i : (63 : Int) ≤ (q : Int) := by omega
      have hmin : Nat.min q 63 = 63 := Nat.min_eq_right hq63; have hne : (qc6 b).drop (28 + 63 * k) ≠ [] := fun h0 => by have := hdd.out; rw [h0] at this; simp at this; omega
      have HNE := hid hne; have hi64 : Hid (N.length ≤ 1000) := hid (by rw [HNL.out]; omega); obtain ⟨NL, hNL⟩ : ∃ NL, NL = qbj ((zeros 64).set 0 2) 1 (((qc6 b).drop (28 + 63 * k)).take 63) := ⟨_, rfl⟩; have hnl : NL.length = 64 := by
       rw [hNL, qc1]; · simp [zeros]
       · rw [List.length_take, hdd.out]; simp [zeros]; omega
      have HLL := hid hnl; have HNL' := hid hNL; have HTL : Hid (ql0 (qc6 b) (k + 1) = ql0 (qc6 b) k ++ NL) := hid (by rw [ql0, hNL, List.drop_drop]); have h78 : w7.heap.size = wr.heap.size + 1 := S7; clear hown hrow hb MK R7 R8 B7 hne hNL hnl S7; by_cases hq : q = 63
      · have HQ3 := hid hq
        subst hq; go_wp2_with (first
         | (refine qbd (m := (qc6 b).drop (28 + 63 * k)) _ rfl (.tmp 37) (.tmp 38) rfl (by first | rfl | simp [Act.eval]) (by rw [hdd.out]; first | rfl | simp [Act.eval]) (HD8.out.arr (28 + 63 * k)) HNE.out HR8.out (by simp [zeros]) ?_; intro w9 R9 O9 B9; rw [hdd.out, hmin]; rw [← HNL'.out] at R9; have HR9 := hid R9; have HOO9 := hid O9; have HBB9 := hid B9; have hs9 := (B9 0 _ (Below.refl 0 _) (Nat.zero_le _)).size; simp only [World.size_setCell] at hs9; clear R9 O9 B9)
         | (at_builtin; refine qdw (l := N) (m := NL) (A := A) (c := c) (lo := w4.heap.size) _ rfl (.tmp 43) (.tmp 44) rfl (by simp [Act.eval]) (HO.out.keep fun b' _ _ _ hlt' => (HOO9.out b' (by omega)).trans (H8.out b' hlt')) (A2 := some ⟨wr.heap.size, 0, none⟩) 64 (by rw [HLL.out]; simp [Act.eval]) (HR9.out.arr0) (by rw [HLL.out]; have := hi64.out; omega) (by omega) ?_; intro A9 c9 w10 hown9 hgr9 hloc9))
        have hO9 : Own byE 5 1 w9 w4.heap.size A c N := HO.out.keep fun b' _ _ _ hlt' => (HOO9.out b' (by omega)).trans (H8.out b' hlt')
        have b9 := HBB9.out w.heap.size w HB8.out (by omega); have b10 : Below w.heap.size w w10 := b9.grown hgr9 (by omega) (fun k' hk' => by
         rcases hO9.lt with h0 | ⟨b', off', hA, hlo', _⟩
         · rw [qa8, if_pos h0] at hk'; cases hk'
         · rw [qa8] at hk'
           split at hk'
           · cases hk'
           · rw [hA] at hk'; simp at hk'; omega)
        have d10 : RowB w10 w3.heap.size 5 (qc6 b) := (hgr9.block _ (by omega) (fun h0 => by
         rcases hO9.lt with h1 | ⟨b', off', hA, hlo', _⟩
         · rw [qa8, if_pos h1] at h0; cases h0
         · rw [qa8] at h0
           split at h0
           · cases h0
           · rw [hA] at h0; simp at h0; omega)).trans ((HOO9.out _ (by omega)).trans HD8.out)
        have hs10 := hgr9.size; refine ⟨⟨k + 1, _, 0, A9, c9, N ++ NL, by omega, by go_num, rfl, hid (by have := HQ.out; omega), hid fun h0 => ?_, by simp, hid (by rw [HTL.out, HN0.out, List.append_assoc]), hid (by rw [List.length_append, HNL.out, HLL.out]; omega), hown9, d10, b10, by omega⟩, by simp [intOf]; omega⟩; have := HQ.out; omega
      · go_wp2_with (first
         | (refine qbd (m := (qc6 b).drop (28 + 63 * k)) _ rfl (.tmp 37) (.tmp 38) rfl (by first | rfl | simp [Act.eval]) (by rw [hdd.out]; first | rfl | simp [Act.eval]) (HD8.out.arr (28 + 63 * k)) HNE.out HR8.out (by simp [zeros]) ?_; intro w9 R9 O9 B9; rw [hdd.out, hmin]; rw [← HNL'.out] at R9; have HR9 := hid R9; have HOO9 := hid O9; have HBB9 := hid B9; have hs9 := (B9 0 _ (Below.refl 0 _) (Nat.zero_le _)).size; simp only [World.size_setCell] at hs9; clear R9 O9 B9)
         | (at_builtin; refine qdw (l := N) (m := NL) (A := A) (c := c) (lo := w4.heap.size) _ rfl (.tmp 43) (.tmp 44) rfl (by simp [Act.eval]) (HO.out.keep fun b' _ _ _ hlt' => (HOO9.out b' (by omega)).trans (H8.out b' hlt')) (A2 := some ⟨wr.heap.size, 0, none⟩) 64 (by rw [HLL.out]; simp [Act.eval]) (HR9.out.arr0) (by rw [HLL.out]; have := hi64.out; omega) (by omega) ?_; intro A9 c9 w10 hown9 hgr9 hloc9))
        have hO9 : Own byE 5 1 w9 w4.heap.size A c N := HO.out.keep fun b' _ _ _ hlt' => (HOO9.out b' (by omega)).trans (H8.out b' hlt')
        have b9 := HBB9.out w.heap.size w HB8.out (by omega); have b10 : Below w.heap.size w w10 := b9.grown hgr9 (by omega) (fun k' hk' => by
         rcases hO9.lt with h0 | ⟨b', off', hA, hlo', _⟩
         · rw [qa8, if_pos h0] at hk'; cases hk'
         · rw [qa8] at hk'
           split at hk'
           · cases hk'
           · rw [hA] at hk'; simp at hk'; omega)
        have d10 : RowB w10 w3.heap.size 5 (qc6 b) := (hgr9.block _ (by omega) (fun h0 => by
         rcases hO9.lt with h1 | ⟨b', off', hA, hlo', _⟩
         · rw [qa8, if_pos h1] at h0; cases h0
         · rw [qa8] at h0
           split at h0
           · cases h0
           · rw [hA] at h0; simp at h0; omega)).trans ((HOO9.out _ (by omega)).trans HD8.out)
        have hs10 := hgr9.size; refine ⟨⟨k + 1, _, q - 63, A9, c9, N ++ NL, by omega, by go_num, rfl, hid (by have := HQ.out; omega), hid fun h0 => ?_, by simp, hid (by rw [HTL.out, HN0.out, List.append_assoc]), hid (by rw [List.length_append, HNL.out, HLL.out]; omega), hown9, d10, b10, by omega⟩, by simp [intOf]; omega⟩; rw [show 28 + 63 * (k + 1) = 28 + 63 * k + 63 by omega]
    · obtain rfl : k = m := by omega
      have HE : Hid (encB b = N) := hid (by rw [HN0.out, encB, HSP.out]; rfl); clear hown hrow hb; go_wp2_with fail; refine bodyPost_ret (v := .tuple #[.slice A (encB b).length c, .int .i64 0]) (by rw [HE.out]; simp [results, results132]) rfl ⟨A, c, rfl, ?_, HB.out⟩; rw [HE.out]; exact HO.out.lower HB4.out.size
end
end Go.Proofs.YtecikkjbnkhhkaaGreat
