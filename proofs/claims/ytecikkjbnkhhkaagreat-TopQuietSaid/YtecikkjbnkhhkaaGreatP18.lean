/- A part of the walk. -/
import Derived.Test.YtecikkjbnkhhkaaGreatP13
import Derived.Test.YtecikkjbnkhhkaaGreatP12
namespace Go.Proofs.YtecikkjbnkhhkaaGreat
open _root_.Go.Proofs.Tryz
set_option maxHeartbeats 2000000
set_option maxRecDepth 100000
section
open Go.RowKit
theorem ql5 {L : List qa3} {at' n : Nat} (h : n ≤ L.length) (h0 : ¬ n = 0) (ha : at' < L.length) (z : qa3) : qd4 L at' n = L[at'] :: qd4 (L.set at' z) ((at' + 1) % L.length) (n - 1) := by
 have hm : (at' + 1) % L.length < L.length := Nat.mod_lt _ (by omega); apply List.ext_getElem
 · rw [List.length_cons, qbf h, qbf (by rw [List.length_set]; omega)]
   omega
 · intro i h1 h2
   rw [qbf h] at h1; rw [qe6 h ha h1]; cases i with
   | zero =>
    simp only [List.getElem_cons_zero, Nat.add_zero]; congr 1; exact Nat.mod_eq_of_lt ha
   | succ i =>
    rw [List.getElem_cons_succ, qe6 (by rw [List.length_set]; omega) (by rw [List.length_set]; exact hm) (by omega)]; have e : ((at' + 1) % L.length + i) % (L.set at' z).length = (at' + (i + 1)) % L.length := by
     rw [List.length_set, Nat.mod_add_mod]; congr 1; omega
    have hne : at' ≠ (at' + (i + 1)) % L.length := by
     intro he; by_cases hlt : at' + (i + 1) < L.length
     · rw [Nat.mod_eq_of_lt hlt] at he
       omega
     · rw [Nat.mod_eq_sub_mod (by omega), Nat.mod_eq_of_lt (by omega)] at he
       omega
    simp only [e]; rw [List.getElem_set_ne hne]
def qks (lo p : Nat) (A : Option Addr) (c : Nat) (Q : List qa3) (w : World) (e : Ending) (w' : World) : Prop := ∃ x Q', Q = x :: Q' ∧ e = .returned (.tuple #[x.val, .bool true]) ∧ qv1 lo p A c Q' w w'
theorem qn3 (w : World) (lo p : Nat) (A : Option Addr) (c : Nat) (L : List qa3) (at' n : Nat) (h : qbo w lo p A c L at' n) (hn : ¬ n = 0) (hlow : lo ≤ w.heap.size) (hL : L.length ≤ 1000000) : Calls prog 366 #[.pointer (some ⟨p, 0, none⟩)] w (qks lo p A c (qd4 L at' n) w) := by
 have hp := qa0 h.box; have hfit := h.fit.1; have hat : at' < L.length := by rcases h.fit.2 with h0 | h0 <;> omega
 have H := hid h; have HX := hid (show L[at'].val = .agg #[.string L[at'].key, .int .u64 (L[at'].id : Int), .int .u64 (L[at'].ver : Int), .int .i64 L[at'].line, .int .i64 L[at'].cls] from rfl); clear h; go_enter func366, ntmps366; go_upto_region 1 with fail; generalize hw1 : World.alloc w _ = w1; have R1 : w1.heap[w.heap.size]? = some (.cells qak.enc.toArray 85 (0, 0)) := by rw [← hw1]; exact (qa2 _ _ _).trans (if_pos rfl)
 have b1 : Below w.heap.size w w1 := by rw [← hw1]; exact (Below.refl _ _).alloc (Nat.le_refl _) _
 have HR1 := hid R1; have HB1 := hid b1; have H1 := hid (H.out.keep (b1.block p hp) (fun b _ hlt => b1.block b hlt)); have hl1 := qa0 R1; clear hw1 R1 b1; go_wp2_with fail; refine (qgf w1 lo p A c L at' n H1.out hn hat).mono ?_; rintro e w2 ⟨rfl, b2⟩; rw [HX.out]; have HB2 := hid (HB1.out.trans (b2.mono HB1.out.size)); have HR2 := hid ((b2.block _ hl1).trans HR1.out); clear b2 HB1 HR1 H1; go_upto_region 4 with fail; generalize hw3 : World.alloc _ _ = w3; have b3 : Below w2.heap.size w2 w3 := by rw [← hw3]; exact ((Below.refl _ _).alloc (Nat.le_refl _) _).alloc (by simp) _
 have RX3 : w3.heap[w2.heap.size]? = some (.cells L[at'].enc.toArray 85 (0, 0)) := by rw [← hw3, qa2, if_neg (by simp), qa2, if_pos rfl]; rfl
 have RZ3 : w3.heap[w2.heap.size + 1]? = some (.cells qak.enc.toArray 85 (0, 0)) := by rw [← hw3, qa2, if_pos (by simp)]; rfl
 have HRX := hid RX3; have HRZ := hid RZ3; have HR3 := hid ((b3.block _ (Nat.lt_of_lt_of_le (qa0 HR2.out) (Nat.le_refl _))).trans HR2.out); have HB3 := hid (HB2.out.trans (b3.mono HB2.out.size)); clear hw3 RX3 RZ3; have HZ : Hid (w3.heap.size = w3.heap.size) := hid rfl; have lz3 := qa0 HRZ.out; have r0 := cell_of_row w3 _ 0 _ _ _ HRZ.out; have r1 := cell_of_row w3 _ 1 _ _ _ HRZ.out; have r2 := cell_of_row w3 _ 2 _ _ _ HRZ.out; have r3 := cell_of_row w3 _ 3 _ _ _ HRZ.out; have r4 := cell_of_row w3 _ 4 _ _ _ HRZ.out; simp only [qa3.enc, List.getElem?_toArray, List.getElem?_cons_zero, List.getElem?_cons_succ] at r0 r1 r2 r3 r4; have H3 := hid (H.out.keep (HB3.out.block p hp) (fun b _ hlt => HB3.out.block b hlt)); have hp3 := qa0 H3.out.box; have p0 := cell_of_row w3 p 0 _ _ _ H3.out.box; have p1 := cell_of_row w3 p 1 _ _ _ H3.out.box; have p2 := cell_of_row w3 p 2 _ _ _ H3.out.box; simp only [List.getElem?_toArray, List.getElem?_cons_zero, List.getElem?_cons_succ] at p0 p1 p2; have hc0 : ¬ c = 0 := by have := H3.out.rows.len; omega
 obtain ⟨b, off, rfl, hB, k0, k1, k2, k3, k4⟩ := (H3.out.rows.arr qa3.enc_len).link hat; have hfz := H3.out.rows.frozen rfl (by omega); have z0 := hfz (off + at' * 5); have z1 := hfz (off + at' * 5 + 1); have z2 := hfz (off + at' * 5 + 2); have z3 := hfz (off + at' * 5 + 3); have z4 := hfz (off + at' * 5 + 4); have hpb : ¬ p = b := fun h0 => H3.out.rows.notBox H3.out.box (by decide) (by rw [qa8, if_neg hc0, h0]; rfl)
 have hbp : ¬ b = p := fun h0 => hpb h0.symm
 have hai : (at' : Int) < (L.length : Int) := by omega
 clear hfz b3; go_still_tail 10, (by kernel_rfl); change wpList _ _ _ _ _ (World.drew w3); generalize hw4 : World.drew w3 = w4; have hh4 : w4.heap = w3.heap := by rw [← hw4]; rfl
 have HB4 : Hid (Below w.heap.size w w4) := hid (by rw [← hw4]; exact HB3.out.drew); have hc4 : ∀ a, w4.cell? a = w3.cell? a := fun a => by rw [← hw4]; rfl
 have hf4 : ∀ a, w4.frozen? a = w3.frozen? a := fun a => by rw [← hw4]; rfl
 rw [← hc4] at k0 k1 k2 k3 k4; rw [← hf4] at z0 z1 z2 z3 z4; rw [← hh4] at hB lz3 hp3; have H4 := hid (H3.out.keep (w' := w4) (by rw [hh4]) (fun b _ _ => by rw [hh4])); have HRX4 : Hid (w4.heap[w2.heap.size]? = some (.cells L[at'].enc.toArray 85 (0, 0))) := hid (by rw [hh4]; exact HRX.out); have HR4 : Hid (w4.heap[w.heap.size]? = some (.cells qak.enc.toArray 85 (0, 0))) := hid (by rw [hh4]; exact HR3.out); have hwb : w.heap.size ≠ b := fun h0 => by
  rcases H.out.rows.lt with h1 | ⟨b', off', hA, _, hlt⟩
  · exact hc0 h1
  · cases hA; omega
 have hxb : w2.heap.size ≠ b := fun h0 => by
  rcases H.out.rows.lt with h1 | ⟨b', off', hA, _, hlt⟩
  · exact hc0 h1
  · cases hA; have := HB2.out.size; omega
 have hxp : w2.heap.size ≠ p := by have := HB2.out.size; omega
 clear hw4 hh4 hc4 hf4 p0 p1 p2 r0 r1 r2 r3 r4 HRX HRZ HR3 HB3 H3 HZ; go_upto_region 5 with fail; generalize hw5 : World.setCell _ _ _ = w5; have e5 : w4.setCells b (off + at' * 5) qak.enc = w5 := hw5; have HO5 : Hid (∀ j, j ≠ b → w5.heap[j]? = w4.heap[j]?) := hid fun j hj => by rw [← e5]; exact qaa b qak.enc (off + at' * 5) w4 j hj
 have HW5 : Hid (Own qa3.enc 85 5 w5 lo (some ⟨b, off, none⟩) c (L.set at' qak)) := hid (by rw [← e5]; exact Own.setOne qa3.enc_len H4.out.rows hat qak); have hlb : lo ≤ b := by
  rcases H4.out.rows.lt with h0 | ⟨b', off', hA, hB, _⟩
  · exact absurd h0 hc0
  · cases hA; exact hB
 have HB5 : Hid (Below lo w w5) := hid (by rw [← e5]; exact qae hlb qak.enc (off + at' * 5) w4 (HB4.out.mono hlow)); have HX5 := hid ((HO5.out p hpb).trans H4.out.box); have HRX5 := hid ((HO5.out _ hxb).trans HRX4.out); have HR5 := hid ((HO5.out _ hwb).trans HR4.out); have hlo' := H4.out.lo; clear hw5 e5 z0 z1 z2 z3 z4 hB; have p0 := cell_of_row w5 p 0 _ _ _ HX5.out; have p1 := cell_of_row w5 p 1 _ _ _ HX5.out; have p2 := cell_of_row w5 p 2 _ _ _ HX5.out; simp only [List.getElem?_toArray, List.getElem?_cons_zero, List.getElem?_cons_succ] at p0 p1 p2; have fp1 := frozen_of_row w5 p 1 _ _ HX5.out; have hp5 := qa0 HX5.out; have hL2 : ¬ L.length = 0 := by omega
 have hL3 : ¬ L = [] := fun h0 => by rw [h0] at hL2; exact hL2 rfl
 have hL0 : ¬ (L.length : Int) = 0 := by omega
 have hL1 : ((L.length : Int) == 0) = false := by rw [beq_eq_false_iff_ne]; exact hL0
 have hm : (at' + 1) % L.length < L.length := Nat.mod_lt _ (by omega); have e3 : Int.tmod ((at' : Int) + 1) (L.length : Int) = (((at' + 1) % L.length : Nat) : Int) := by rw [show (at' : Int) + 1 = ((at' + 1 : Nat) : Int) by omega, Int.ofNat_tmod]
 have i2 : IntKind.i64.wrap (((at' + 1) % L.length : Nat) : Int) = (((at' + 1) % L.length : Nat) : Int) := Go.IntWalk.i64_in _ (by omega); have i1 : IntKind.i64.wrap ((at' : Int) + 1) = (at' : Int) + 1 := Go.IntWalk.i64_in _ (by omega); obtain ⟨k, hk⟩ : ∃ k, k = (at' + 1) % L.length := ⟨_, rfl⟩; rw [← hk] at e3 i2 hm; have HK := hid hk; clear hk; go_still_tail 14, (by kernel_rfl); change wpList _ _ _ _ _ (World.drew w5); generalize hw6 : World.drew w5 = w6; have hh6 : w6.heap = w5.heap := by rw [← hw6]; rfl
 have HB6 : Hid (Below lo w w6) := hid (by rw [← hw6]; exact HB5.out.drew); have HX6 := hid (show w6.heap[p]? = _ from (congrArg (fun h : Array Obj => h[p]?) hh6).trans HX5.out); have p1' := cell_of_row w6 p 1 _ _ _ HX6.out; have fp1' := frozen_of_row w6 p 1 _ _ HX6.out; have hp6 := qa0 HX6.out; clear p0 p1 p2 fp1 hp5 e3 i2 i1 hL0 hL1 hL2 hL3; go_upto_region 6 with fail; generalize hw7 : World.setCell _ _ _ = w7; have HX7 := hid (show w7.heap[p]? = some (.cells #[.slice (some ⟨b, off, none⟩) L.length c, .int .i64 (k : Int), .int .i64 (n : Int)] 210 (0, 0)) by rw [← hw7]; exact heap_setCell_same _ p 1 _ _ _ HX6.out); have HO7 : Hid (∀ j, j ≠ p → w7.heap[j]? = w5.heap[j]?) := hid fun j hj => by rw [← hw7, Below.heap_setCell _ _ _ _ hj, hh6]
 have HB7 : Hid (Below lo w w7) := hid (by rw [← hw7]; exact HB6.out.setCell hlo' _); have HRX7 := hid ((HO7.out _ hxp).trans HRX5.out); have HR7 := hid ((HO7.out w.heap.size (by omega)).trans HR5.out); clear hw7 hw6 hh6 p1' fp1' HX6; have p2 := cell_of_row w7 p 2 _ _ _ HX7.out; simp only [List.getElem?_toArray, List.getElem?_cons_zero, List.getElem?_cons_succ] at p2; have fp2 := frozen_of_row w7 p 2 _ _ HX7.out; have hp7 := qa0 HX7.out; have lx7 := qa0 HRX7.out; have lr7 := qa0 HR7.out; have in1 : IntKind.i64.wrap ((n : Int) - 1) = (n : Int) - 1 := Go.IntWalk.i64_in _ (by omega); have r0 := cell_of_row w7 _ 0 _ _ _ HRX7.out; have r1 := cell_of_row w7 _ 1 _ _ _ HRX7.out; have r2 := cell_of_row w7 _ 2 _ _ _ HRX7.out; have r3 := cell_of_row w7 _ 3 _ _ _ HRX7.out; have r4 := cell_of_row w7 _ 4 _ _ _ HRX7.out; simp only [qa3.enc, List.getElem?_toArray, List.getElem?_cons_zero, List.getElem?_cons_succ] at r0 r1 r2 r3 r4; have q0 := cell_of_row w7 _ 0 _ _ _ HR7.out; have q1 := cell_of_row w7 _ 1 _ _ _ HR7.out; have q2 := cell_of_row w7 _ 2 _ _ _ HR7.out; have q3 := cell_of_row w7 _ 3 _ _ _ HR7.out; have q4 := cell_of_row w7 _ 4 _ _ _ HR7.out; simp only [qa3.enc, List.getElem?_toArray, List.getElem?_cons_zero, List.getElem?_cons_succ] at q0 q1 q2 q3 q4; have f0 := frozen_of_row w7 _ 0 _ _ HR7.out; have f1 := frozen_of_row w7 _ 1 _ _ HR7.out; have f2 := frozen_of_row w7 _ 2 _ _ HR7.out; have f3 := frozen_of_row w7 _ 3 _ _ HR7.out; have f4 := frozen_of_row w7 _ 4 _ _ HR7.out; have hrp : w.heap.size ≠ p := by omega
 have hpr : ¬ p = w.heap.size := by omega
 have hpx : ¬ p = w2.heap.size := fun h0 => hxp h0.symm
 have HD : Hid ((w7.setCell ⟨p, 2, none⟩ (.int .i64 ((n : Int) - 1))).heap[p]? = some (.cells #[.slice (some ⟨b, off, none⟩) L.length c, .int .i64 (k : Int), .int .i64 ((n : Int) - 1)] 210 (0, 0))) := hid (heap_setCell_same _ p 2 _ _ (.int .i64 ((n : Int) - 1)) HX7.out); have HRD := hid ((Below.heap_setCell w7 ⟨p, 2, none⟩ (.int .i64 ((n : Int) - 1)) w.heap.size hrp).trans HR7.out); have HO8 : Hid (∀ j, j ≠ w.heap.size → ((w7.setCell ⟨p, 2, none⟩ (.int .i64 ((n : Int) - 1))).setCells w.heap.size 0 L[at'].enc).heap[j]? = (w7.setCell ⟨p, 2, none⟩ (.int .i64 ((n : Int) - 1))).heap[j]?) := hid fun j hj => qaa _ _ _ _ j hj
 go_wp2_with fail; refine bodyPost_ret (v := .tuple #[L[at'].val, .bool true]) (qdq results366 _ _ w.heap.size L[at'] _ (by simp) (by simp) (box5 HRD.out)) rfl ⟨L[at'], _, ql5 hfit hn hat qak, rfl, ⟨⟨some ⟨b, off, none⟩, c, ⟨L.set at' qak, k, n - 1, ⟨?_, ?_, hlo', ?_, ?_⟩, ?_⟩, .inl ⟨rfl, rfl⟩⟩, ?_, fun j hj hjp hjr => ?_, fun K hK _ => (Ring.of_box HD.out (hK.len H.out.box)).same (HO8.out p hpr)⟩⟩
 · rw [List.length_set, show ((n - 1 : Nat) : Int) = (n : Int) - 1 by omega]
   exact (HO8.out p hpr).trans HD.out
 · refine HW5.out.keep fun b' off' hA _ _ => ?_
   cases hA
   exact (HO8.out b (fun h0 => hwb h0.symm)).trans ((Below.heap_setCell _ _ _ _ hbp).trans (HO7.out b hbp))
 · rw [List.length_set]
   exact ⟨by omega, .inr hm⟩
 · intro h0
   have := congrArg List.length h0; rw [List.length_set] at this; simp at this; rw [this] at hat; simp at hat
 · rw [HK.out]
 · exact qae hlow L[at'].enc 0 (w7.setCell ⟨p, 2, none⟩ (.int .i64 ((n : Int) - 1))) (HB7.out.setCell (p := ⟨p, 2, none⟩) hlo' _)
 · have hjb : j ≠ b := fun h0 => hjr (by rw [qa8, if_neg hc0, h0]; rfl)
   exact (HO8.out j (by omega)).trans ((Below.heap_setCell _ _ _ _ hjp).trans ((HO7.out j hjp).trans ((HO5.out j hjb).trans (HB4.out.block j hj))))
end
section
open Go.RowKit
def qoi (N k : Nat) : List Value := [.map (if 0 < k then some (N + 1 + 0) else none), .map (if 1 < k then some (N + 1 + 1) else none), .map (if 2 < k then some (N + 1 + 2) else none), .map (if 3 < k then some (N + 1 + 3) else none), .map (if 4 < k then some (N + 1 + 4) else none), .map (if 5 < k then some (N + 1 + 5) else none), .map (if 6 < k then some (N + 1 + 6) else none), .map (if 7 < k then some (N + 1 + 7) else none)]
theorem qms {N k : Nat} (hk : k < 8) : (qoi N k).set k (.map (some (N + 1 + k))) = qoi N (k + 1) := by
 rcases (by omega : k = 0 ∨ k = 1 ∨ k = 2 ∨ k = 3 ∨ k = 4 ∨ k = 5 ∨ k = 6 ∨ k = 7) with rfl | rfl | rfl | rfl | rfl | rfl | rfl | rfl <;> rfl
theorem qin {N k : Nat} (hk : k < 8) : (qoi N k)[k]? = some (.map none) := by
 rcases (by omega : k = 0 ∨ k = 1 ∨ k = 2 ∨ k = 3 ∨ k = 4 ∨ k = 5 ∨ k = 6 ∨ k = 7) with rfl | rfl | rfl | rfl | rfl | rfl | rfl | rfl <;> rfl
structure qBa (N k : Nat) (w wr : World) : Prop where
 row : wr.heap[N]? = some (.cells (qoi N k).toArray 198 (0, 0))
 maps : ∀ i, i < k → wr.heap[N + 1 + i]? = some (.map #[] 0)
 size : wr.heap.size = N + 1 + k
 below : Below N w wr
theorem qse (W : World) : (Instr.makeMap 195 none).run prog W = .ok (.map (some W.heap.size)) (W.alloc (.map #[] 0)) := by kernel_rfl
theorem qzf (W : World) (m : Nat) : (binOp .eql 195 (.map (some m)) (.map none)).run prog W = .ok (.bool false) W := by kernel_rfl
theorem qps (w : World) : Calls prog 74 #[] w fun e w' => e = .returned (.pointer (some ⟨w.heap.size, 0, none⟩)) ∧ qbk (fun _ => True) w' w.heap.size (fun i => w.heap.size + 1 + i) (fun _ => []) ∧ Below w.heap.size w w' := by
 go_enter func74, ntmps74; go_wp2_with fail; go_loopw [2, 5] (fun _ v5 wr => ∃ k : Nat, k ≤ 8 ∧ v5 = .int .i64 k ∧ qBa w.heap.size k w wr) (fun _ v5 _ => 8 - (intOf v5).toNat)
 case atStart => exact ⟨0, by omega, rfl, ⟨(qa2 _ _ _).trans (if_pos rfl), fun i h => absurd h (by omega), by simp, (Below.refl _ _).alloc (Nat.le_refl _) _⟩⟩
 case round =>
  obtain ⟨k, hk, rfl, hN⟩ := hrel; by_cases hlt : k < 8
  · have hki : (k : Int) < 8 := by omega
    have c0 := cell_of_row wr _ k _ _ _ hN.row; rw [List.getElem?_toArray, qin hlt] at c0; have f0 := frozen_of_row wr _ k _ _ hN.row; have hlw := qa0 hN.row; have HN := hid hN; have MM := qse wr; have hsz := hN.size; obtain ⟨w1, hw1⟩ : ∃ w1, w1 = wr.alloc (.map #[] 0) := ⟨_, rfl⟩; rw [← hw1] at MM; have hs1 : w1.heap.size = wr.heap.size + 1 := by rw [hw1]; simp
    have ho1 : ∀ j, j < wr.heap.size → w1.heap[j]? = wr.heap[j]? := fun j hj => by rw [hw1]; exact Below.heap_alloc _ _ _ hj
    have hm1 : w1.heap[wr.heap.size]? = some (.map #[] 0) := by rw [hw1, qa2, if_pos rfl]
    have hb1 : Below w.heap.size w w1 := by rw [hw1]; exact hN.below.alloc (by omega) _
    have R1 := (ho1 _ hlw).trans HN.out.row; have c1 := cell_of_row w1 _ k _ _ _ R1; rw [List.getElem?_toArray, qin hlt] at c1; have f1 := frozen_of_row w1 _ k _ _ R1; have HH := hid (And.intro ho1 (And.intro hm1 hb1)); have HR1 := hid R1; clear hN hw1 ho1 hm1 hb1 R1 c0 f0; go_wp2_with fail; refine ⟨⟨k + 1, by omega, by go_num, ⟨?_, fun i hi => ?_, ?_, ?_⟩⟩, by simp [intOf]; omega⟩
    · have := heap_setCell_same w1 w.heap.size k _ _ (.map (some (w.heap.size + 1 + k))) HR1.out
      rw [this, ← qms hlt]; simp
    · rw [Below.heap_setCell _ _ _ _ (by simp; omega)]
      by_cases hik : i = k
      · subst hik
        rw [← hsz]; exact HH.out.2.1
      · rw [HH.out.1 _ (by omega)]
        exact HN.out.maps i (by omega)
    · simp; omega
    · exact HH.out.2.2.setCell (p := ⟨w.heap.size, k, none⟩) (Nat.le_refl _) _
  · obtain rfl : k = 8 := by omega
    have HN := hid hN; clear hN; go_wp2_with fail; go_ret; refine ⟨rfl, ⟨HN.out.row, fun i hi => ⟨#[], 0, HN.out.maps i hi, MpL.nil⟩, fun i j _ _ h => by omega, fun i _ x hx => by simp at hx, trivial, fun _ _ => trivial⟩, HN.out.below⟩
def updB (B : Nat → List qa3) (k : Nat) (L : List qa3) : Nat → List qa3 := fun j => if j = k then L else B j
section
variable {F : Nat → Prop} {w w' : World} {tb : Nat} {mb : Nat → Nat} {B : Nat → List qa3}
theorem qoq {L : List qa3} {x y : qa3} (h : y ∈ setM L x) : y = x ∨ y ∈ L := by
 unfold setM at h; split at h
 · rcases List.mem_or_eq_of_mem_set h with h | h
   · exact .inr h
   · exact .inl h
 · rcases List.mem_append.1 h with h | h
   · exact .inr h
   · exact .inl (by simpa using h)
theorem qor {L : List qa3} {key : ByteArray} {y : qa3} (h : y ∈ delM L key) : y ∈ L := by
 unfold delM at h; split at h
 · exact List.mem_of_mem_eraseIdx h
 · exact h
theorem qbk.upd (h : qbk F w tb mb B) {k : Nat} (hk : k < 8) {L : List qa3} (hm : MapL w' (mb k) L) (hs : ∀ j, j < w.heap.size → j ≠ mb k → w'.heap[j]? = w.heap[j]?) (hL : ∀ x ∈ L, bucket x.key = k ∧ x.key.size ≤ 1000000) : qbk F w' tb mb (updB B k L) := by
 have hne : tb ≠ mb k := fun h0 => by
  obtain ⟨es, clock, h1, _⟩ := h.map k hk; rw [← h0, h.box] at h1; cases h1
 refine ⟨(hs tb h.lt hne).trans h.box, fun i hi => ?_, h.inj, fun i hi x hx => ?_, h.own⟩
 · unfold updB
   by_cases hik : i = k
   · subst hik; rw [if_pos rfl]; exact hm
   · rw [if_neg hik]
     exact (h.map i hi).same (hs _ (h.map i hi).lt fun h0 => hik (h.inj i k hi hk h0))
 · unfold updB at hx
   by_cases hik : i = k
   · subst hik; rw [if_pos rfl] at hx; exact hL x hx
   · rw [if_neg hik] at hx; exact h.bkt i hi x hx
def qpf (F : Nat → Prop) (tb : Nat) (mb : Nat → Nat) (B : Nat → List qa3) (k : Nat) (v : Value) (w : World) (e : Ending) (w' : World) : Prop := e = .returned v ∧ qbk F w' tb mb B ∧ Only (fun j => j = mb k) w w'
theorem qpr (h : qbk F w tb mb B) (x : qa3) (hk : x.key.size ≤ 1000000) : Calls prog 280 #[.pointer (some ⟨tb, 0, none⟩), x.val] w (qpf F tb mb (updB B (bucket x.key) (setM (B (bucket x.key)) x)) (bucket x.key) (.bool (qd0 (B (bucket x.key)) x.key).isSome) w) := by
 have H := hid h; have HK := hid hk; have hb8 := qb6 x.key; clear h hk; obtain ⟨k, hk⟩ : ∃ k, k = bucket x.key := ⟨_, rfl⟩; rw [← hk] at hb8 ⊢; have HKK := hid hk; clear hk; obtain ⟨y, hy⟩ : ∃ y, y = (qd0 (B k) x.key).getD qak := ⟨_, rfl⟩; obtain ⟨ok, hok⟩ : ∃ ok, ok = (qd0 (B k) x.key).isSome := ⟨_, rfl⟩; have HYV := hid (show y.val = .agg #[.string y.key, .int .u64 (y.id : Int), .int .u64 (y.ver : Int), .int .i64 y.line, .int .i64 y.cls] from rfl); have HXV := hid (show x.val = .agg #[.string x.key, .int .u64 (x.id : Int), .int .u64 (x.ver : Int), .int .i64 x.line, .int .i64 x.cls] from rfl); rw [← hok]; rw [HXV.out]; go_enter func280, ntmps280; go_upto_region 1 with fail; generalize hw1 : World.alloc w _ = w1; have b1 : Below w.heap.size w w1 := by rw [← hw1]; exact (Below.refl _ _).alloc (Nat.le_refl _) _
 have R1 : w1.heap[w.heap.size]? = some (.cells x.enc.toArray 85 (0, 0)) := by rw [← hw1]; exact (qa2 _ _ _).trans (if_pos rfl)
 have HR1 := hid R1; have HB1 := hid b1; have H1 := hid (H.out.below b1); have hl1 := qa0 R1; have r0 := cell_of_row w1 _ 0 _ _ _ R1; have r1 := cell_of_row w1 _ 1 _ _ _ R1; have r2 := cell_of_row w1 _ 2 _ _ _ R1; have r3 := cell_of_row w1 _ 3 _ _ _ R1; have r4 := cell_of_row w1 _ 4 _ _ _ R1; simp only [qa3.enc, List.getElem?_toArray, List.getElem?_cons_zero, List.getElem?_cons_succ] at r0 r1 r2 r3 r4; clear hw1 R1 b1; go_wp2_with fail; refine (qh4 H1.out x.key HK.out).mono ?_; rintro e w2 ⟨rfl, b2⟩; rw [← HKK.out]; have H2 := hid (H1.out.below b2); have HB2 := hid (HB1.out.trans (b2.mono HB1.out.size)); have R2 := (b2.block _ hl1).trans HR1.out; have lk := qk6 (H2.out.map _ hb8) x.key; rw [← hy, ← hok, HYV.out] at lk; have q0 := cell_of_row w2 _ 0 _ _ _ R2; have q1 := cell_of_row w2 _ 1 _ _ _ R2; have q2 := cell_of_row w2 _ 2 _ _ _ R2; have q3 := cell_of_row w2 _ 3 _ _ _ R2; have q4 := cell_of_row w2 _ 4 _ _ _ R2; simp only [qa3.enc, List.getElem?_toArray, List.getElem?_cons_zero, List.getElem?_cons_succ] at q0 q1 q2 q3 q4; have hl2 := qa0 R2; have HR2 := hid R2; have HY := hid hy; have HOKK := hid hok; clear R2 b2 H1 hy hok r0 r1 r2 r3 r4; have b3 : Below w2.heap.size w2 (w2.alloc (.cells #[.string y.key, .int .u64 (y.id : Int), .int .u64 (y.ver : Int), .int .i64 y.line, .int .i64 y.cls] 85)) := (Below.refl _ _).alloc (Nat.le_refl _) _; have H3 := hid (H2.out.below b3); have HB3 := hid (HB2.out.trans (b3.mono HB2.out.size)); obtain ⟨w4, hput, hmap, hgr, hsz⟩ := qA8 (H3.out.map _ hb8) x; rw [HXV.out] at hput; have HM := hid hmap; have HG := hid hgr; have HSZ := hid hsz; have EQ := fun W : World => qzf W (mb k)
 clear b3 hmap hgr hsz; go_wp2_with fail; go_ret; have hs := HSZ.out; refine ⟨rfl, H3.out.upd hb8 HM.out (fun j hj hne => HG.out.block j hj (by simpa using hne)) fun z hz => ?_, ⟨HG.out.os.trans HB3.out.os, HG.out.tape.trans HB3.out.tape, HG.out.output.trans HB3.out.output, by have := HB3.out.size; omega, fun j hj hne => (HG.out.block j (by have := HB3.out.size; omega) (by simpa using hne)).trans (HB3.out.block j hj)⟩⟩; rcases qoq hz with rfl | hz
 · exact ⟨HKK.out.symm, HK.out⟩
 · exact H3.out.bkt k hb8 z hz
theorem qmt (h : qbk F w tb mb B) (key : ByteArray) (hk : key.size ≤ 1000000) : Calls prog 344 #[.pointer (some ⟨tb, 0, none⟩), .string key] w (qpf F tb mb (updB B (bucket key) (delM (B (bucket key)) key)) (bucket key) (.tuple #[((qd0 (B (bucket key)) key).getD qak).val, .bool (qd0 (B (bucket key)) key).isSome]) w) := by
 have H := hid h; have HK := hid hk; have hb8 := qb6 key; clear h hk; obtain ⟨k, hk⟩ : ∃ k, k = bucket key := ⟨_, rfl⟩; rw [← hk] at hb8 ⊢; have HKK := hid hk; clear hk; obtain ⟨y, hy⟩ : ∃ y, y = (qd0 (B k) key).getD qak := ⟨_, rfl⟩; obtain ⟨ok, hok⟩ : ∃ ok, ok = (qd0 (B k) key).isSome := ⟨_, rfl⟩; have HYV := hid (show y.val = .agg #[.string y.key, .int .u64 (y.id : Int), .int .u64 (y.ver : Int), .int .i64 y.line, .int .i64 y.cls] from rfl); rw [← hok, ← hy]; go_enter func344, ntmps344; go_upto_region 1 with fail; generalize hw1 : World.alloc w _ = w1; have b1 : Below w.heap.size w w1 := by rw [← hw1]; exact (Below.refl _ _).alloc (Nat.le_refl _) _
 have R1 : w1.heap[w.heap.size]? = some (.cells qak.enc.toArray 85 (0, 0)) := by rw [← hw1]; exact (qa2 _ _ _).trans (if_pos rfl)
 have HR1 := hid R1; have HB1 := hid b1; have H1 := hid (H.out.below b1); have hl1 := qa0 R1; clear hw1 R1 b1; go_wp2_with fail; refine (qh4 H1.out key HK.out).mono ?_; rintro e w2 ⟨rfl, b2⟩; rw [← HKK.out]; have H2 := hid (H1.out.below b2); have HB2 := hid (HB1.out.trans (b2.mono HB1.out.size)); have R2 := (b2.block _ hl1).trans HR1.out; have lk := qk6 (H2.out.map _ hb8) key; rw [← hy, ← hok, HYV.out] at lk; have hl2 := qa0 R2; have HR2 := hid R2; clear R2 b2 H1 hy hok; have b3 : Below w2.heap.size w2 (w2.alloc (.cells #[.string y.key, .int .u64 (y.id : Int), .int .u64 (y.ver : Int), .int .i64 y.line, .int .i64 y.cls] 85)) := (Below.refl _ _).alloc (Nat.le_refl _) _; have H3 := hid (H2.out.below b3); have HB3 := hid (HB2.out.trans (b3.mono HB2.out.size)); have mk2 : mb k < w2.heap.size := (H2.out.map _ hb8).lt; have mkw : mb k < w.heap.size := (H.out.map _ hb8).lt; obtain ⟨w4, hput, hmap, hgr, hsz⟩ := qB1 (H3.out.map _ hb8) key 0; have RY4 : w4.heap[w2.heap.size]? = some (.cells y.enc.toArray 85 (0, 0)) := (hgr.block _ (by simp) (by simp; omega)).trans ((qa2 _ _ _).trans (if_pos rfl)); have R4 : w4.heap[w.heap.size]? = some (.cells qak.enc.toArray 85 (0, 0)) := (hgr.block _ (by simp; omega) (by simp; omega)).trans ((Below.heap_alloc _ _ _ hl2).trans HR2.out); have HM := hid hmap; have HG := hid hgr; have HSZ := hid hsz; have HR4 := hid R4; have q0 := cell_of_row w4 _ 0 _ _ _ R4; have q1 := cell_of_row w4 _ 1 _ _ _ R4; have q2 := cell_of_row w4 _ 2 _ _ _ R4; have q3 := cell_of_row w4 _ 3 _ _ _ R4; have q4 := cell_of_row w4 _ 4 _ _ _ R4; simp only [qa3.enc, List.getElem?_toArray, List.getElem?_cons_zero, List.getElem?_cons_succ] at q0 q1 q2 q3 q4; have f0 := frozen_of_row w4 _ 0 _ _ R4; have f1 := frozen_of_row w4 _ 1 _ _ R4; have f2 := frozen_of_row w4 _ 2 _ _ R4; have f3 := frozen_of_row w4 _ 3 _ _ R4; have f4 := frozen_of_row w4 _ 4 _ _ R4; have r0 := cell_of_row w4 _ 0 _ _ _ RY4; have r1 := cell_of_row w4 _ 1 _ _ _ RY4; have r2 := cell_of_row w4 _ 2 _ _ _ RY4; have r3 := cell_of_row w4 _ 3 _ _ _ RY4; have r4 := cell_of_row w4 _ 4 _ _ _ RY4; simp only [qa3.enc, List.getElem?_toArray, List.getElem?_cons_zero, List.getElem?_cons_succ] at r0 r1 r2 r3 r4; have hl4 := qa0 R4; have hly4 := qa0 RY4; clear b3 hmap hgr hsz R4 RY4; have HO8 : Hid (∀ j, j ≠ w.heap.size → (w4.setCells w.heap.size 0 y.enc).heap[j]? = w4.heap[j]?) := hid fun j hj => qaa _ _ _ _ j hj
 go_wp2_with fail; have hall : ∀ j, j < w.heap.size → j ≠ mb k → (w4.setCells w.heap.size 0 y.enc).heap[j]? = w.heap[j]? := fun j hj hne =>
  (HO8.out j (by omega)).trans ((HG.out.block j (by have := HB2.out.size; simp; omega) (by simpa using hne)).trans ((Below.heap_alloc _ _ _ (by have := HB2.out.size; omega)).trans (HB2.out.block j hj)))
 have hss := HSZ.out; have hb2 := HB2.out.size; simp only [World.size_alloc] at hss; have hsm := HO8; refine bodyPost_ret (v := .tuple #[y.val, .bool ok]) (qdq results344 _ _ w.heap.size y _ (by simp) (by simp) (box5 HR4.out)) rfl ⟨rfl, ?_, ?_⟩
 · exact H.out.upd hb8 (HM.out.same (HO8.out _ (by omega))) hall fun z hz => H.out.bkt k hb8 z (qor hz)
 · obtain ⟨h1, h2, h3, h4⟩ := qam w.heap.size y.enc 0 w4
   exact ⟨h1.trans (HG.out.os.trans HB3.out.os), h2.trans (HG.out.tape.trans HB3.out.tape), h3.trans (HG.out.output.trans HB3.out.output), by show w.heap.size ≤ (w4.setCells w.heap.size 0 y.enc).heap.size; omega, hall⟩
end
end
end Go.Proofs.YtecikkjbnkhhkaaGreat
