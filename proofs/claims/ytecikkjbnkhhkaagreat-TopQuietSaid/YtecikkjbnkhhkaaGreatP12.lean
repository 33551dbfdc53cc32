/- A part of the walk. -/
import Derived.Test.YtecikkjbnkhhkaaGreatP10
namespace Go.Proofs.YtecikkjbnkhhkaaGreat
open _root_.Go.Proofs.Tryz
set_option maxHeartbeats 2000000
set_option maxRecDepth 100000
section
open Go.RowKit
theorem Own.setOne {α : Type} {enc : α → List Value} {e : TypeId} {k : Nat} (hk : ∀ x, (enc x).length = k) {w : World} {lo b off c : Nat} {l : List α} (h : Own enc e k w lo (some ⟨b, off, none⟩) c l) {i : Nat} (hi : i < l.length) (x : α) : Own enc e k (w.setCells b (off + i * k) (enc x)) lo (some ⟨b, off, none⟩) c (l.set i x) := by
 have := h.setPart hk hi x 0 (enc x) (by rw [hk]; omega) (fun j hj => by rw [hk] at hj; rw [List.getElem?_eq_none (by rw [hk]; omega), List.getElem?_eq_none (by rw [hk]; omega)]) (fun j _ => by rw [Nat.zero_add]); simpa using this
theorem qjw (w : World) (lo p : Nat) (A : Option Addr) (c : Nat) (L : List qa3) (at' n : Nat) (x : qa3) (h : qbo w lo p A c L at' n) (hn : n < L.length) (hlow : lo ≤ w.heap.size) (hL : L.length ≤ 200001) : Calls prog 329 #[.pointer (some ⟨p, 0, none⟩), x.val] w (qff lo p A c (qd4 L at' n ++ [x]) w) := by
 have hp := qa0 h.box; have hat : at' < L.length := by rcases h.fit.2 with h0 | h0 <;> omega
 have HXV := hid (show x.val = .agg #[.string x.key, .int .u64 (x.id : Int), .int .u64 (x.ver : Int), .int .i64 x.line, .int .i64 x.cls] from rfl); have hm : (at' + n) % L.length < L.length := Nat.mod_lt _ (by omega); have e1 : ((n : Int) == (L.length : Int)) = false := by rw [beq_eq_false_iff_ne]; omega
 have e3 : Int.tmod ((at' : Int) + (n : Int)) (L.length : Int) = (((at' + n) % L.length : Nat) : Int) := by rw [show (at' : Int) + (n : Int) = ((at' + n : Nat) : Int) by omega, Int.ofNat_tmod]
 have hmi : (((at' + n) % L.length : Nat) : Int) < (L.length : Int) := by omega
 rw [HXV.out]; obtain ⟨b, off, rfl, hB, -⟩ := (h.rows.arr qa3.enc_len).link hat; go_enter func329, ntmps329; go_upto_region 1 with fail; generalize hw1 : World.alloc w _ = w1; have R1 : w1.heap[w.heap.size]? = some (.cells x.enc.toArray 85 (0, 0)) := by rw [← hw1]; exact (qa2 _ _ _).trans (if_pos rfl)
 have b1 : Below w.heap.size w w1 := by rw [← hw1]; exact (Below.refl _ _).alloc (Nat.le_refl _) _
 have HB1 := hid b1; have H1 := hid (h.keep (b1.block p hp) (fun b _ hlt => b1.block b hlt)); have hp1 := qa0 H1.out.box; have p0 := cell_of_row w1 p 0 _ _ _ H1.out.box; have p1 := cell_of_row w1 p 1 _ _ _ H1.out.box; have p2 := cell_of_row w1 p 2 _ _ _ H1.out.box; have r0 := cell_of_row w1 _ 0 _ _ _ R1; have r1 := cell_of_row w1 _ 1 _ _ _ R1; have r2 := cell_of_row w1 _ 2 _ _ _ R1; have r3 := cell_of_row w1 _ 3 _ _ _ R1; have r4 := cell_of_row w1 _ 4 _ _ _ R1; simp only [qa3.enc, List.getElem?_toArray, List.getElem?_cons_zero, List.getElem?_cons_succ] at r0 r1 r2 r3 r4; have hl1 := qa0 R1; have HN := hid h; clear hw1 R1 b1 h; go_quiet (fail); go_upto_region 6 with fail; generalize hw2 : w1.drewN nq = w2; have hh2 : w2.heap = w1.heap := by rw [← hw2]; rfl
 have H2 := hid (H1.out.keep (w' := w2) (by rw [hh2]) (fun b _ _ => by rw [hh2])); have HB2 : Hid (Below w.heap.size w w2) := hid (by rw [← hw2]; exact qa1 HB1.out _); have hc2 : ∀ a, w2.cell? a = w1.cell? a := fun a => by rw [← hw2]; rfl
 rw [← hc2] at p0 p1 p2 r0 r1 r2 r3 r4; rw [show w1.heap.size = w2.heap.size by rw [hh2]] at hp1 hl1; clear hw2 hh2 hc2 HB1 H1; have hL0 : ¬ (L.length : Int) = 0 := by omega
 have hL2 : ¬ L.length = 0 := by omega
 have hL3 : ¬ L = [] := fun h0 => by rw [h0] at hL2; exact hL2 rfl
 have hL1 : ((L.length : Int) == 0) = false := by rw [beq_eq_false_iff_ne]; exact hL0
 have i1 : IntKind.i64.wrap ((at' : Int) + (n : Int)) = (at' : Int) + (n : Int) := Go.IntWalk.i64_in _ (by omega); have i2 : IntKind.i64.wrap (((at' + n) % L.length : Nat) : Int) = (((at' + n) % L.length : Nat) : Int) := Go.IntWalk.i64_in _ (by omega); have hm0 : (0 : Int) ≤ (((at' + n) % L.length : Nat) : Int) := by omega
 have RWS := hid H2.out.rows; have hfz := RWS.out.frozen rfl (by have := RWS.out.len; omega); obtain ⟨k, hk⟩ : ∃ k, k = (at' + n) % L.length := ⟨_, rfl⟩; rw [← hk] at e3 hmi i2 hm0 hm; have hcells := RWS.out.arr qa3.enc_len; obtain ⟨b', off', hA', hB', k0, k1, k2, k3, k4⟩ := hcells.link hm; cases hA'
 clear hcells; have z0 := hfz (off + k * 5); have z1 := hfz (off + k * 5 + 1); have z2 := hfz (off + k * 5 + 2); have z3 := hfz (off + k * 5 + 3); have z4 := hfz (off + k * 5 + 4); have HK := hid hk; clear hfz hk; go_still_tail 20, (by kernel_rfl); change wpList _ _ _ _ _ (World.drew w2); obtain ⟨w3, hw3⟩ : ∃ w3, w3 = w2.drew := ⟨_, rfl⟩; rw [← hw3]; have hh3 : w3.heap = w2.heap := by rw [hw3]; rfl
 have HB3 : Hid (Below w.heap.size w w3) := hid (by rw [hw3]; exact HB2.out.drew); have H3 := hid (H2.out.keep (w' := w3) (by rw [hh3]) (fun b _ _ => by rw [hh3])); have hc3 : ∀ a, w3.cell? a = w2.cell? a := fun a => by rw [hw3]; rfl
 have hf3 : ∀ a, w3.frozen? a = w2.frozen? a := fun a => by rw [hw3]; rfl
 rw [← hc3] at p0 p1 p2 k0 k1 k2 k3 k4; rw [← hf3] at z0 z1 z2 z3 z4; rw [show w2.heap.size = w3.heap.size by rw [hh3]] at hp1 hB'; have hc0 : ¬ c = 0 := by have := RWS.out.len; omega
 have hpb : ¬ p = b := fun h0 => H3.out.rows.notBox H3.out.box (by decide) (by rw [qa8, if_neg hc0, h0]; rfl)
 have hbp : ¬ b = p := fun h0 => hpb h0.symm
 have fp2 := frozen_of_row w3 p 2 _ _ H3.out.box; have in1 : IntKind.i64.wrap ((n : Int) + 1) = (n : Int) + 1 := Go.IntWalk.i64_in _ (by omega); clear hw3 hh3 hc3 hf3 HB2 H2 r0 r1 r2 r3 r4 hl1 e3 i1 i2 e1 hL0 hL1 hL2 hL3 p0 p1; have HW5 : Hid (Own qa3.enc 85 5 (w3.setCells b (off + k * 5) x.enc) lo (some ⟨b, off, none⟩) c (L.set k x)) := hid (Own.setOne qa3.enc_len H3.out.rows hm x); have HX5 : Hid ((w3.setCells b (off + k * 5) x.enc).heap[p]? = _) := hid ((qaa b x.enc (off + k * 5) w3 p hpb).trans H3.out.box); have HO5 : Hid (∀ j, j ≠ b → (w3.setCells b (off + k * 5) x.enc).heap[j]? = w3.heap[j]?) := hid fun j hj => qaa b x.enc (off + k * 5) w3 j hj
 have HS5 := hid (qam b x.enc (off + k * 5) w3); go_wp2_with fail; have hlob := H3.out.lo; refine bodyPost_ret (v := .tuple #[]) (by simp [results, results329]) rfl ⟨rfl, ⟨⟨some ⟨b, off, none⟩, c, ⟨L.set k x, at', n + 1, ⟨?_, ?_, hlob, ?_, ?_⟩, ?_⟩, .inl ⟨rfl, rfl⟩⟩, ?_, fun j hj hjp hjr => ?_, fun K hK _ => Ring.of_box (heap_setCell_same _ p 2 _ _ (.int .i64 ((n : Int) + 1)) HX5.out) ((hK.same (HB3.out.block p hp)).len H3.out.box)⟩⟩
 · rw [List.length_set]
   exact heap_setCell_same _ p 2 _ _ (.int .i64 ((n : Int) + 1)) HX5.out
 · exact HW5.out.keep fun b' off' hA _ _ => by
    cases hA
    exact Below.heap_setCell _ _ _ _ hbp
 · rw [List.length_set]
   exact ⟨by omega, .inr hat⟩
 · intro h0
   have := congrArg List.length h0; rw [List.length_set] at this; simp at this; rw [this] at hn; simp at hn
 · rw [HK.out]
   exact (qq2 hn hat x).symm
 · have hlb : lo ≤ b := by
    rcases H3.out.rows.lt with h0 | ⟨b', off', hA, hB, _⟩
    · exact absurd h0 hc0
    · cases hA; exact hB
   exact ((qae hlb x.enc (off + k * 5) w3 (HB3.out.mono hlow)).setCell (p := ⟨p, 2, none⟩) hlob _)
 · have hjb : j ≠ b := fun h0 => hjr (by rw [qa8, if_neg hc0, h0]; rfl)
   exact (Below.heap_setCell _ _ _ _ hjp).trans ((HO5.out j hjb).trans (HB3.out.block j hj))
end
section
open Go.RowKit
theorem ql5 {L : List qa3} {at' n : Nat} (h : n ≤ L.length) (h0 : ¬ n = 0) (ha : at' < L.length) (z : qa3) : qd4 L at' n = L[at'] :: qd4 (L.set at' z) ((at' + 1) % L.length) (n - 1) := by
 have hm : (at' + 1) % L.length < L.length := Nat.mod_lt _ (by omega); apply List.ext_getElem
 · rw [List.length_cons, qbf h, qbf (by rw [List.length_set]; omega)]
   omega
 · intro i h1 h2
   rw [qbf h] at h1; rw [qe6 h ha h1]; cases i with
   | zero =>
    simp only [List.getElem_cons_zero, Nat.add_zero]; congr 1; exact Nat.mod_eq_of_lt ha
   | succ i =>
    rw [List.getElem_cons_succ, qe6 (by rw [List.length_set]; omega) (by rw [List.length_set]; exact hm) (by omega)]; have e : ((at' + 1) % L.length + i) % (L.set at' z).length = (at' + (i + 1)) % L.length := by
     rw [List.length_set, Nat.mod_add_mod]; congr 1; omega
    have hne : at' ≠ (at' + (i + 1)) % L.length := by
     intro he; by_cases hlt : at' + (i + 1) < L.length
     · rw [Nat.mod_eq_of_lt hlt] at he
       omega
     · rw [Nat.mod_eq_sub_mod (by omega), Nat.mod_eq_of_lt (by omega)] at he
       omega
    simp only [e]; rw [List.getElem_set_ne hne]
def qks (lo p : Nat) (A : Option Addr) (c : Nat) (Q : List qa3) (w : World) (e : Ending) (w' : World) : Prop := ∃ x Q', Q = x :: Q' ∧ e = .returned (.tuple #[x.val, .bool true]) ∧ qv1 lo p A c Q' w w'
theorem qn3 (w : World) (lo p : Nat) (A : Option Addr) (c : Nat) (L : List qa3) (at' n : Nat) (h : qbo w lo p A c L at' n) (hn : ¬ n = 0) (hlow : lo ≤ w.heap.size) (hL : L.length ≤ 1000000) : Calls prog 366 #[.pointer (some ⟨p, 0, none⟩)] w (qks lo p A c (qd4 L at' n) w) := by
 have hp := qa0 h.box; have hfit := h.fit.1; have hat : at' < L.length := by rcases h.fit.2 with h0 | h0 <;> omega
 have H := hid h; have HX := hid (show L[at'].val = .agg #[.string L[at'].key, .int .u64 (L[at'].id : Int), .int .u64 (L[at'].ver : Int), .int .i64 L[at'].line, .int .i64 L[at'].cls] from rfl); clear h; go_enter func366, ntmps366; go_upto_region 1 with fail; generalize hw1 : World.alloc w _ = w1; have R1 : w1.heap[w.heap.size]? = some (.cells qak.enc.toArray 85 (0, 0)) := by rw [← hw1]; exact (qa2 _ _ _).trans (if_pos rfl)
 have b1 : Below w.heap.size w w1 := by rw [← hw1]; exact (Below.refl _ _).alloc (Nat.le_refl _) _
 have HR1 := hid R1; have HB1 := hid b1; have H1 := hid (H.out.keep (b1.block p hp) (fun b _ hlt => b1.block b hlt)); have hl1 := qa0 R1; clear hw1 R1 b1; go_wp2_with fail; refine (qgf w1 lo p A c L at' n H1.out hn hat).mono ?_; rintro e w2 ⟨rfl, b2⟩; rw [HX.out]; have HB2 := hid (HB1.out.trans (b2.mono HB1.out.size)); have HR2 := hid ((b2.block _ hl1).trans HR1.out); clear b2 HB1 HR1 H1; go_upto_region 4 with fail; generalize hw3 : World.alloc _ _ = w3; have b3 : Below w2.heap.size w2 w3 := by rw [← hw3]; exact ((Below.refl _ _).alloc (Nat.le_refl _) _).alloc (by simp) _
 have RX3 : w3.heap[w2.heap.size]? = some (.cells L[at'].enc.toArray 85 (0, 0)) := by rw [← hw3, qa2, if_neg (by simp), qa2, if_pos rfl]; rfl
 have RZ3 : w3.heap[w2.heap.size + 1]? = some (.cells qak.enc.toArray 85 (0, 0)) := by rw [← hw3, qa2, if_pos (by simp)]; rfl
 have HRX := hid RX3; have HRZ := hid RZ3; have HR3 := hid ((b3.block _ (Nat.lt_of_lt_of_le (qa0 HR2.out) (Nat.le_refl _))).trans HR2.out); have HB3 := hid (HB2.out.trans (b3.mono HB2.out.size)); clear hw3 RX3 RZ3; have HZ : Hid (w3.heap.size = w3.heap.size) := hid rfl; have lz3 := qa0 HRZ.out; have r0 := cell_of_row w3 _ 0 _ _ _ HRZ.out; have r1 := cell_of_row w3 _ 1 _ _ _ HRZ.out; have r2 := cell_of_row w3 _ 2 _ _ _ HRZ.out; have r3 := cell_of_row w3 _ 3 _ _ _ HRZ.out; have r4 := cell_of_row w3 _ 4 _ _ _ HRZ.out; simp only [qa3.enc, List.getElem?_toArray, List.getElem?_cons_zero, List.getElem?_cons_succ] at r0 r1 r2 r3 r4; have H3 := hid (H.out.keep (HB3.out.block p hp) (fun b _ hlt => HB3.out.block b hlt)); have hp3 := qa0 H3.out.box; have p0 := cell_of_row w3 p 0 _ _ _ H3.out.box; have p1 := cell_of_row w3 p 1 _ _ _ H3.out.box; have p2 := cell_of_row w3 p 2 _ _ _ H3.out.box; simp only [List.getElem?_toArray, List.getElem?_cons_zero, List.getElem?_cons_succ] at p0 p1 p2; have hc0 : ¬ c = 0 := by have := H3.out.rows.len; omega
 obtain ⟨b, off, rfl, hB, k0, k1, k2, k3, k4⟩ := (H3.out.rows.arr qa3.enc_len).link hat; have hfz := H3.out.rows.frozen rfl (by omega); have z0 := hfz (off + at' * 5); have z1 := hfz (off + at' * 5 + 1); have z2 := hfz (off + at' * 5 + 2); have z3 := hfz (off + at' * 5 + 3); have z4 := hfz (off + at' * 5 + 4); have hpb : ¬ p = b := fun h0 => H3.out.rows.notBox H3.out.box (by decide) (by rw [qa8, if_neg hc0, h0]; rfl)
 have hbp : ¬ b = p := fun h0 => hpb h0.symm
 have hai : (at' : Int) < (L.length : Int) := by omega
 clear hfz b3; go_still_tail 10, (by kernel_rfl); change wpList _ _ _ _ _ (World.drew w3); generalize hw4 : World.drew w3 = w4; have hh4 : w4.heap = w3.heap := by rw [← hw4]; rfl
 have HB4 : Hid (Below w.heap.size w w4) := hid (by rw [← hw4]; exact HB3.out.drew); have hc4 : ∀ a, w4.cell? a = w3.cell? a := fun a => by rw [← hw4]; rfl
 have hf4 : ∀ a, w4.frozen? a = w3.frozen? a := fun a => by rw [← hw4]; rfl
 rw [← hc4] at k0 k1 k2 k3 k4; rw [← hf4] at z0 z1 z2 z3 z4; rw [← hh4] at hB lz3 hp3; have H4 := hid (H3.out.keep (w' := w4) (by rw [hh4]) (fun b _ _ => by rw [hh4])); have HRX4 : Hid (w4.heap[w2.heap.size]? = some (.cells L[at'].enc.toArray 85 (0, 0))) := hid (by rw [hh4]; exact HRX.out); have HR4 : Hid (w4.heap[w.heap.size]? = some (.cells qak.enc.toArray 85 (0, 0))) := hid (by rw [hh4]; exact HR3.out); have hwb : w.heap.size ≠ b := fun h0 => by
  rcases H.out.rows.lt with h1 | ⟨b', off', hA, _, hlt⟩
  · exact hc0 h1
  · cases hA; omega
 have hxb : w2.heap.size ≠ b := fun h0 => by
  rcases H.out.rows.lt with h1 | ⟨b', off', hA, _, hlt⟩
  · exact hc0 h1
  · cases hA; have := HB2.out.size; omega
 have hxp : w2.heap.size ≠ p := by have := HB2.out.size; omega
 clear hw4 hh4 hc4 hf4 p0 p1 p2 r0 r1 r2 r3 r4 HRX HRZ HR3 HB3 H3 HZ; go_upto_region 5 with fail; generalize hw5 : World.setCell _ _ _ = w5; have e5 : w4.setCells b (off + at' * 5) qak.enc = w5 := hw5; have HO5 : Hid (∀ j, j ≠ b → w5.heap[j]? = w4.heap[j]?) := hid fun j hj => by rw [← e5]; exact qaa b qak.enc (off + at' * 5) w4 j hj
 have HW5 : Hid (Own qa3.enc 85 5 w5 lo (some ⟨b, off, none⟩) c (L.set at' qak)) := hid (by rw [← e5]; exact Own.setOne qa3.enc_len H4.out.rows hat qak); have hlb : lo ≤ b := by
  rcases H4.out.rows.lt with h0 | ⟨b', off', hA, hB, _⟩
  · exact absurd h0 hc0
  · cases hA; exact hB
 have HB5 : Hid (Below lo w w5) := hid (by rw [← e5]; exact qae hlb qak.enc (off + at' * 5) w4 (HB4.out.mono hlow)); have HX5 := hid ((HO5.out p hpb).trans H4.out.box); have HRX5 := hid ((HO5.out _ hxb).trans HRX4.out); have HR5 := hid ((HO5.out _ hwb).trans HR4.out); have hlo' := H4.out.lo; clear hw5 e5 z0 z1 z2 z3 z4 hB; have p0 := cell_of_row w5 p 0 _ _ _ HX5.out; have p1 := cell_of_row w5 p 1 _ _ _ HX5.out; have p2 := cell_of_row w5 p 2 _ _ _ HX5.out; simp only [List.getElem?_toArray, List.getElem?_cons_zero, List.getElem?_cons_succ] at p0 p1 p2; have fp1 := frozen_of_row w5 p 1 _ _ HX5.out; have hp5 := qa0 HX5.out; have hL2 : ¬ L.length = 0 := by omega
 have hL3 : ¬ L = [] := fun h0 => by rw [h0] at hL2; exact hL2 rfl
 have hL0 : ¬ (L.length : Int) = 0 := by omega
 have hL1 : ((L.length : Int) == 0) = false := by rw [beq_eq_false_iff_ne]; exact hL0
 have hm : (at' + 1) % L.length < L.length := Nat.mod_lt _ (by omega); have e3 : Int.tmod ((at' : Int) + 1) (L.length : Int) = (((at' + 1) % L.length : Nat) : Int) := by rw [show (at' : Int) + 1 = ((at' + 1 : Nat) : Int) by omega, Int.ofNat_tmod]
 have i2 : IntKind.i64.wrap (((at' + 1) % L.length : Nat) : Int) = (((at' + 1) % L.length : Nat) : Int) := Go.IntWalk.i64_in _ (by omega); have i1 : IntKind.i64.wrap ((at' : Int) + 1) = (at' : Int) + 1 := Go.IntWalk.i64_in _ (by omega); obtain ⟨k, hk⟩ : ∃ k, k = (at' + 1) % L.length := ⟨_, rfl⟩; rw [← hk] at e3 i2 hm; have HK := hid hk; clear hk; go_still_tail 14, (by kernel_rfl); change wpList _ _ _ _ _ (World.drew w5); generalize hw6 : World.drew w5 = w6; have hh6 : w6.heap = w5.heap := by rw [← hw6]; rfl
 have HB6 : Hid (Below lo w w6) := hid (by rw [← hw6]; exact HB5.out.drew); have HX6 := hid (show w6.heap[p]? = _ from (congrArg (fun h : Array Obj => h[p]?) hh6).trans HX5.out); have p1' := cell_of_row w6 p 1 _ _ _ HX6.out; have fp1' := frozen_of_row w6 p 1 _ _ HX6.out; have hp6 := qa0 HX6.out; clear p0 p1 p2 fp1 hp5 e3 i2 i1 hL0 hL1 hL2 hL3; go_upto_region 6 with fail; generalize hw7 : World.setCell _ _ _ = w7; have HX7 := hid (show w7.heap[p]? = some (.cells #[.slice (some ⟨b, off, none⟩) L.length c, .int .i64 (k : Int), .int .i64 (n : Int)] 210 (0, 0)) by rw [← hw7]; exact heap_setCell_same _ p 1 _ _ _ HX6.out); have HO7 : Hid (∀ j, j ≠ p → w7.heap[j]? = w5.heap[j]?) := hid fun j hj => by rw [← hw7, Below.heap_setCell _ _ _ _ hj, hh6]
 have HB7 : Hid (Below lo w w7) := hid (by rw [← hw7]; exact HB6.out.setCell hlo' _); have HRX7 := hid ((HO7.out _ hxp).trans HRX5.out); have HR7 := hid ((HO7.out w.heap.size (by omega)).trans HR5.out); clear hw7 hw6 hh6 p1' fp1' HX6; have p2 := cell_of_row w7 p 2 _ _ _ HX7.out; simp only [List.getElem?_toArray, List.getElem?_cons_zero, List.getElem?_cons_succ] at p2; have fp2 := frozen_of_row w7 p 2 _ _ HX7.out; have hp7 := qa0 HX7.out; have lx7 := qa0 HRX7.out; have lr7 := qa0 HR7.out; have in1 : IntKind.i64.wrap ((n : Int) - 1) = (n : Int) - 1 := Go.IntWalk.i64_in _ (by omega); have r0 := cell_of_row w7 _ 0 _ _ _ HRX7.out; have r1 := cell_of_row w7 _ 1 _ _ _ HRX7.out; have r2 := cell_of_row w7 _ 2 _ _ _ HRX7.out; have r3 := cell_of_row w7 _ 3 _ _ _ HRX7.out; have r4 := cell_of_row w7 _ 4 _ _ _ HRX7.out; simp only [qa3.enc, List.getElem?_toArray, List.getElem?_cons_zero, List.getElem?_cons_succ] at r0 r1 r2 r3 r4; have q0 := cell_of_row w7 _ 0 _ _ _ HR7.out; have q1 := cell_of_row w7 _ 1 _ _ _ HR7.out; have q2 := cell_of_row w7 _ 2 _ _ _ HR7.out; have q3 := cell_of_row w7 _ 3 _ _ _ HR7.out; have q4 := cell_of_row w7 _ 4 _ _ _ HR7.out; simp only [qa3.enc, List.getElem?_toArray, List.getElem?_cons_zero, List.getElem?_cons_succ] at q0 q1 q2 q3 q4; have f0 := frozen_of_row w7 _ 0 _ _ HR7.out; have f1 := frozen_of_row w7 _ 1 _ _ HR7.out; have f2 := frozen_of_row w7 _ 2 _ _ HR7.out; have f3 := frozen_of_row w7 _ 3 _ _ HR7.out; have f4 := frozen_of_row w7 _ 4 _ _ HR7.out; have hrp : w.heap.size ≠ p := by omega
 have hpr : ¬ p = w.heap.size := by omega
 have hpx : ¬ p = w2.heap.size := fun h0 => hxp h0.symm
 have HD : Hid ((w7.setCell ⟨p, 2, none⟩ (.int .i64 ((n : Int) - 1))).heap[p]? = some (.cells #[.slice (some ⟨b, off, none⟩) L.length c, .int .i64 (k : Int), .int .i64 ((n : Int) - 1)] 210 (0, 0))) := hid (heap_setCell_same _ p 2 _ _ (.int .i64 ((n : Int) - 1)) HX7.out); have HRD := hid ((Below.heap_setCell w7 ⟨p, 2, none⟩ (.int .i64 ((n : Int) - 1)) w.heap.size hrp).trans HR7.out); have HO8 : Hid (∀ j, j ≠ w.heap.size → ((w7.setCell ⟨p, 2, none⟩ (.int .i64 ((n : Int) - 1))).setCells w.heap.size 0 L[at'].enc).heap[j]? = (w7.setCell ⟨p, 2, none⟩ (.int .i64 ((n : Int) - 1))).heap[j]?) := hid fun j hj => qaa _ _ _ _ j hj
 go_wp2_with fail; refine bodyPost_ret (v := .tuple #[L[at'].val, .bool true]) (qdq results366 _ _ w.heap.size L[at'] _ (by simp) (by simp) (box5 HRD.out)) rfl ⟨L[at'], _, ql5 hfit hn hat qak, rfl, ⟨⟨some ⟨b, off, none⟩, c, ⟨L.set at' qak, k, n - 1, ⟨?_, ?_, hlo', ?_, ?_⟩, ?_⟩, .inl ⟨rfl, rfl⟩⟩, ?_, fun j hj hjp hjr => ?_, fun K hK _ => (Ring.of_box HD.out (hK.len H.out.box)).same (HO8.out p hpr)⟩⟩
 · rw [List.length_set, show ((n - 1 : Nat) : Int) = (n : Int) - 1 by omega]
   exact (HO8.out p hpr).trans HD.out
 · refine HW5.out.keep fun b' off' hA _ _ => ?_
   cases hA
   exact (HO8.out b (fun h0 => hwb h0.symm)).trans ((Below.heap_setCell _ _ _ _ hbp).trans (HO7.out b hbp))
 · rw [List.length_set]
   exact ⟨by omega, .inr hm⟩
 · intro h0
   have := congrArg List.length h0; rw [List.length_set] at this; simp at this; rw [this] at hat; simp at hat
 · rw [HK.out]
 · exact qae hlow L[at'].enc 0 (w7.setCell ⟨p, 2, none⟩ (.int .i64 ((n : Int) - 1))) (HB7.out.setCell (p := ⟨p, 2, none⟩) hlo' _)
 · have hjb : j ≠ b := fun h0 => hjr (by rw [qa8, if_neg hc0, h0]; rfl)
   exact (HO8.out j (by omega)).trans ((Below.heap_setCell _ _ _ _ hjp).trans ((HO7.out j hjp).trans ((HO5.out j hjb).trans (HB4.out.block j hj))))
end
section
open Go.RowKit
def qdl (m : List qa3) (w : World) (e : Ending) (w' : World) : Prop := ∃ A c, e = .returned (.slice A m.length c) ∧ Own qa3.enc 85 5 w' w.heap.size A c m ∧ Below w.heap.size w w'
theorem qn5 (w : World) (lo p : Nat) (A : Option Addr) (c : Nat) (L : List qa3) (at' n : Nat) (h : qbo w lo p A c L at' n) (hL : L.length ≤ 900000) : Calls prog 99 #[.pointer (some ⟨p, 0, none⟩)] w (qdl (qd4 L at' n) w) := by
 have hp := qa0 h.box; have hfit := h.fit; have hmx := qbf (at' := at') hfit.1; obtain ⟨M, hM⟩ : ∃ M, M = qd4 L at' n := ⟨_, rfl⟩; rw [← hM] at hmx ⊢; have HMX := hid hmx; have HM := hid hM; have H := hid h; have p0 := cell_of_row w p 0 _ _ _ h.box; have p1 := cell_of_row w p 1 _ _ _ h.box; have p2 := cell_of_row w p 2 _ _ _ h.box; simp only [List.getElem?_toArray, List.getElem?_cons_zero, List.getElem?_cons_succ] at p0 p1 p2; clear h hM hmx; go_enter func99, ntmps99; go_wp2_with fail; go_loopw [3, 4, 9] (fun v3 _ v9 wr => ∃ (i : Nat) (A' : Option Addr) (c' : Nat) (N : List qa3), i ≤ n ∧ v9 = .int .i64 i ∧ v3 = .slice A' N.length c' ∧ Hid (N = M.take i) ∧ Own qa3.enc 85 5 wr w.heap.size A' c' N ∧ Below w.heap.size w wr) (fun _ _ v9 _ => n - (intOf v9).toNat)
 case atStart => exact ⟨0, none, 0, [], by omega, rfl, rfl, hid rfl, Own.none_, Below.refl _ _⟩
 case round =>
  obtain ⟨i, A', c', N, hi, rfl, rfl, HN, hown, hb⟩ := hrel; have HO := hid hown; have HB := hid hb; have hsz := hb.size; have hln : N.length = i := by rw [HN.out, List.length_take, HMX.out]; omega
  by_cases hlt : i < n
  · have hat : at' < L.length := by rcases hfit.2 with h0 | h0 <;> omega
    have hk : (at' + i) % L.length < L.length := Nat.mod_lt _ (by omega); have hgt : M[i]'(by rw [HMX.out]; exact hlt) = L[(at' + i) % L.length] := by
     simp only [HM.out]; exact qe6 hfit.1 hat hlt
    have e3 : Int.tmod ((at' : Int) + (i : Int)) (L.length : Int) = (((at' + i) % L.length : Nat) : Int) := by rw [show (at' : Int) + (i : Int) = ((at' + i : Nat) : Int) by omega, Int.ofNat_tmod]
    have i2 : IntKind.i64.wrap (((at' + i) % L.length : Nat) : Int) = (((at' + i) % L.length : Nat) : Int) := Go.IntWalk.i64_in _ (by omega); have i1 : IntKind.i64.wrap ((at' : Int) + (i : Int)) = (at' : Int) + (i : Int) := Go.IntWalk.i64_in _ (by omega); have htk : M.take (i + 1) = M.take i ++ [M[i]'(by rw [HMX.out]; exact hlt)] := by rw [List.take_add_one, List.getElem?_eq_getElem (by rw [HMX.out]; exact hlt)]; rfl
    rw [hgt] at htk; clear hgt; obtain ⟨k, hkk⟩ : ∃ k, k = (at' + i) % L.length := ⟨_, rfl⟩; rw [← hkk] at e3 i2 hk; have htk' : M.take (i + 1) = M.take i ++ [L[k]] := by rw [htk]; simp only [hkk]
    have HTK := hid htk'; have hki : (k : Int) < (L.length : Int) := by omega
    have q0 := (hb.cell (p := ⟨p, 0, none⟩) hp).trans p0; have q1 := (hb.cell (p := ⟨p, 1, none⟩) hp).trans p1; have q2 := (hb.cell (p := ⟨p, 2, none⟩) hp).trans p2; have H3 := H.out.keep (hb.block p hp) (fun b _ hl => hb.block b hl); obtain ⟨b, off, rfl, hB, k0, k1, k2, k3, k4⟩ := (H3.rows.arr qa3.enc_len).link hk; have hpw : p < wr.heap.size := by omega
    have hL2 : ¬ L.length = 0 := by omega
    have hL3 : ¬ L = [] := fun h0 => by rw [h0] at hL2; exact hL2 rfl
    have hL0 : ¬ (L.length : Int) = 0 := by omega
    have hL1 : ((L.length : Int) == 0) = false := by rw [beq_eq_false_iff_ne]; exact hL0
    have hlti : (i : Int) < (n : Int) := by omega
    have HX := hid (show L[k].val = .agg #[.string L[k].key, .int .u64 (L[k].id : Int), .int .u64 (L[k].ver : Int), .int .i64 L[k].line, .int .i64 L[k].cls] from rfl); have HLN := hid hln; have hiN : i + 1 ≤ 1000000 := by have := hfit.1; omega
    clear hown hb htk htk' H3 hkk p0 p1 p2 hfit hln; go_upto_region 5 with fail; obtain ⟨i0, hi0, hz0, hz1, hz2⟩ := info_parts qct; have HI0 := hid hi0; have HZ0 := hid hz0; have HZ1 := hid hz1; have HZ2 := hid hz2; clear hi0 hz0 hz1 hz2; go_region_law (refine qbe (l := N) (m := [L[k]]) (A := A') (c := c') (lo := w.heap.size) _ rfl (.tmp 12) (.tmp 31) 141 rfl i0 _ 48 underlying141 HI0.out HZ0.out HZ1.out HZ2.out rfl (by decide) qa3.enc_len qa3.enc_one (by simp [Act.eval]) (by first | exact HO.out.alloc _ | exact HO.out.drew.alloc _ | exact (HO.out.alloc _).drew) (A2 := some ⟨wr.heap.size, 0, none⟩) 1 (by simp [Act.eval]) (qdu (x := L[k]) (by first | (rw [qa2, if_pos (by simp)]; rfl) | (show (World.alloc _ _).heap[_]? = _; rw [qa2, if_pos (by simp)]; rfl))) (by have := HLN.out; unfold maxLen; simp; omega) (by have := HLN.out; simp; omega) (by have := HB.out.size; simp; omega) ?_; intro A5 c5 w5 hown5 hgr5 hloc5); all_goals
     have b5 : Below w.heap.size w w5 := qck (by first | exact HO.out.alloc _ | exact HO.out.drew.alloc _ | exact (HO.out.alloc _).drew) hgr5 (by first | exact HB.out.alloc hsz _ | exact HB.out.drew.alloc hsz _ | exact (HB.out.alloc hsz _).drew) (by simp; omega); have HB5 := hid b5; have HO5 := hid hown5; clear b5 hown5 hgr5 hloc5; go_wp2_with fail; exact ⟨⟨i + 1, A5, c5, N ++ [L[k]], by omega, by go_num, by simp, hid (by rw [HTK.out, HN.out]), HO5.out, HB5.out⟩, by simp [intOf]; omega⟩
  · obtain rfl : i = n := by omega
    have hall : M.take i = M := List.take_of_length_le (by rw [HMX.out]; exact Nat.le_refl _); have HALL := hid hall; have HLN := hid hln; clear hown hb hall hln; go_wp2_with fail; go_ret; have e : N = M := HN.out.trans HALL.out; subst e; exact ⟨A', c', rfl, HO.out, HB.out⟩
theorem qll (w : World) (lo p : Nat) (A : Option Addr) (c : Nat) (Q : List qa3) (x : qa3) (h : qmi w lo p A c Q) (hlow : lo ≤ w.heap.size) (hL : ∀ L at' n, qbo w lo p A c L at' n → L.length ≤ 100000) : Calls prog 284 #[.pointer (some ⟨p, 0, none⟩), x.val] w (qff lo p A c (Q ++ [x]) w) := by
 obtain ⟨L, at', n, h1, rfl⟩ := h; have hl := hL L at' n h1; have hp := qa0 h1.box; have H1 := hid h1; have HXV := hid (show x.val = .agg #[.string x.key, .int .u64 (x.id : Int), .int .u64 (x.ver : Int), .int .i64 x.line, .int .i64 x.cls] from rfl); have T : ∀ W, Below w.heap.size w W → Calls prog 329 #[.pointer (some ⟨p, 0, none⟩), x.val] W (qff lo p A c (qd4 L at' n ++ [x]) W) := fun W hb => by
  have h2 := H1.out.keep (hb.block p hp) (fun b _ hlt => hb.block b hlt); have hlw : lo ≤ W.heap.size := Nat.le_trans hlow hb.size; by_cases hn : n < L.length
  · exact qjw W lo p A c L at' n x h2 hn hlw (by omega)
  · obtain rfl : n = L.length := by have := h1.fit.1; omega
    exact qjx W lo p A c L at' x h2 hlw hl
 have HT := hid T; clear T h1 hL; rw [HXV.out]; go_enter func284, ntmps284; go_upto_region 1 with fail; generalize hw1 : World.alloc w _ = w1; have R1 : w1.heap[w.heap.size]? = some (.cells x.enc.toArray 85 (0, 0)) := by rw [← hw1]; exact (qa2 _ _ _).trans (if_pos rfl)
 have b1 : Below w.heap.size w w1 := by rw [← hw1]; exact (Below.refl _ _).alloc (Nat.le_refl _) _
 have hl1 := qa0 R1; have HB1 := hid b1; have HNR : Hid (∀ b, some b = qa8 A c → b < w.heap.size) := hid fun b hb => by
  rcases H1.out.rows.lt with h0 | ⟨b', off', hA, _, hlt⟩
  · rw [qa8, if_pos h0] at hb; cases hb
  · rw [qa8] at hb
    split at hb
    · cases hb
    · rw [hA] at hb; cases hb; exact hlt
 have r0 := cell_of_row w1 _ 0 _ _ _ R1; have r1 := cell_of_row w1 _ 1 _ _ _ R1; have r2 := cell_of_row w1 _ 2 _ _ _ R1; have r3 := cell_of_row w1 _ 3 _ _ _ R1; have r4 := cell_of_row w1 _ 4 _ _ _ R1; simp only [qa3.enc, List.getElem?_toArray, List.getElem?_cons_zero, List.getElem?_cons_succ] at r0 r1 r2 r3 r4; clear hw1 R1 b1; go_wp2_with fail; go_region_with (go_at_call 329; (try rw [← HXV.out]); refine (HT.out _ (by first | exact HB1.out | exact HB1.out.drew | exact qa1 HB1.out _)).mono ?_; rintro e w2 ⟨rfl, hto⟩); all_goals
  have HTO := hid hto; clear hto; go_wp2_with fail; refine bodyPost_ret (v := .tuple #[]) (by simp [results, results284]) rfl ⟨rfl, ?_⟩; obtain ⟨⟨A', c', hq, hloc⟩, hbel, hk, hring⟩ := HTO.out; have hs1 := HB1.out.size; refine ⟨⟨A', c', hq, hloc.imp id fun ⟨g, off, h1, h2⟩ => ⟨g, off, h1, by simp at h2; omega⟩⟩, ((HB1.out.mono hlow).trans ⟨hbel.os, hbel.tape, hbel.output, hbel.size, hbel.block⟩), fun b hb hbp hbr => (hk b (by simp; omega) hbp hbr).trans (HB1.out.block b hb), fun K hK hQ => hring K ((hK.same (HB1.out.block p hp))) hQ⟩
end
section
open Go.RowKit
theorem qyo {α : Type} {enc : α → List Value} {e : TypeId} {n lo : Nat} {l : List α} {A : Option Addr} {c : Nat} {w : World} (ho : Own enc e n w lo A c l) : ∀ b, some b = qa8 A c → b < w.heap.size := fun b hb => by
 rcases ho.lt with h0 | ⟨b', off, hA, _, hlt⟩
 · rw [qa8, if_pos h0] at hb; cases hb
 · rw [qa8] at hb
   split at hb
   · cases hb
   · rw [hA] at hb; cases hb; exact hlt
theorem qnf (w : World) (lo p : Nat) (A : Option Addr) (c : Nat) (Q : List qa3) (h : qmi w lo p A c Q) (hQ : ¬ Q = []) (hlow : lo ≤ w.heap.size) (hL : ∀ L at' n, qbo w lo p A c L at' n → L.length ≤ 1000000) : Calls prog 346 #[.pointer (some ⟨p, 0, none⟩)] w (qks lo p A c Q w) := by
 obtain ⟨L, at', n, h1, rfl⟩ := h; have hl := hL L at' n h1; have hp := qa0 h1.box; have H1 := hid h1; have hn : ¬ n = 0 := fun h0 => hQ (by rw [h0]; simp [qd4])
 have T : ∀ W, Below w.heap.size w W → Calls prog 366 #[.pointer (some ⟨p, 0, none⟩)] W (qks lo p A c (qd4 L at' n) W) := fun W hb =>
  qn3 W lo p A c L at' n (H1.out.keep (hb.block p hp) (fun b _ hlt => hb.block b hlt)) hn (Nat.le_trans hlow hb.size) hl
 have HT := hid T; have HNR := hid (qyo H1.out.rows); clear T h1 hL hQ; go_enter func346, ntmps346; go_upto_region 1 with fail; generalize hw1 : World.alloc w _ = w1; have R1 : w1.heap[w.heap.size]? = some (.cells qak.enc.toArray 85 (0, 0)) := by rw [← hw1]; exact (qa2 _ _ _).trans (if_pos rfl)
 have b1 : Below w.heap.size w w1 := by rw [← hw1]; exact (Below.refl _ _).alloc (Nat.le_refl _) _
 have hl1 := qa0 R1; have HB1 := hid b1; have HR1 := hid R1; have hp1 := Nat.lt_of_lt_of_le hp b1.size; clear hw1 R1 b1; go_wp2_with fail; refine (HT.out w1 HB1.out).mono ?_; rintro e w2 ⟨x, Q', hq, rfl, hto⟩; have HTO := hid hto; have HQ := hid hq; have hpw : w.heap.size ≠ p := by omega
 have hrw : some w.heap.size ≠ qa8 A c := fun h0 => by have := HNR.out _ h0; omega
 have R2 := (hto.keep _ hl1 hpw hrw).trans HR1.out; have hl2 := qa0 R2; have HR2 := hid R2; have HX := hid (show x.val = .agg #[.string x.key, .int .u64 (x.id : Int), .int .u64 (x.ver : Int), .int .i64 x.line, .int .i64 x.cls] from rfl); rw [HX.out]; have f0 := frozen_of_row w2 _ 0 _ _ R2; have f1 := frozen_of_row w2 _ 1 _ _ R2; have f2 := frozen_of_row w2 _ 2 _ _ R2; have f3 := frozen_of_row w2 _ 3 _ _ R2; have f4 := frozen_of_row w2 _ 4 _ _ R2; have q0 := cell_of_row w2 _ 0 _ _ _ R2; have q1 := cell_of_row w2 _ 1 _ _ _ R2; have q2 := cell_of_row w2 _ 2 _ _ _ R2; have q3 := cell_of_row w2 _ 3 _ _ _ R2; have q4 := cell_of_row w2 _ 4 _ _ _ R2; simp only [qa3.enc, List.getElem?_toArray, List.getElem?_cons_zero, List.getElem?_cons_succ] at q0 q1 q2 q3 q4; clear R2 hto hq; have HO8 : Hid (∀ j, j ≠ w.heap.size → (w2.setCells w.heap.size 0 x.enc).heap[j]? = w2.heap[j]?) := hid fun j hj => qaa _ _ _ _ j hj
 go_wp2_with fail; refine bodyPost_ret (v := .tuple #[x.val, .bool true]) (qdq results346 _ _ w.heap.size x _ (by simp) (by simp) (box5 HR2.out)) rfl ⟨x, Q', HQ.out, rfl, ?_⟩; obtain ⟨⟨A', c', ⟨L', a2, n2, hf, hq'⟩, hloc⟩, hbel, hk, hring⟩ := HTO.out; have hs1 := HB1.out.size; refine ⟨⟨A', c', ⟨L', a2, n2, hf.keep (HO8.out p (fun h0 => hpw h0.symm)) (fun b hb hlt => HO8.out b fun h0 => ?_), hq'⟩, hloc.imp id fun ⟨g, off, h1, h2⟩ => ⟨g, off, h1, by omega⟩⟩, ?_, fun b hb hbp hbr => ?_, fun K hK hQ' => (hring K (hK.same (HB1.out.block p hp)) hQ').same (HO8.out p (fun h0 => hpw h0.symm))⟩
 · rw [h0] at hb
   rcases hloc with ⟨rfl, rfl⟩ | ⟨g, off, rfl, hg⟩
   · exact hrw hb
   · rw [qa8] at hb
     split at hb
     · cases hb
     · simp at hb; omega
 · exact qae hlow x.enc 0 w2 ((HB1.out.mono hlow).trans hbel)
 · exact (HO8.out b (by omega)).trans ((hk b (by omega) hbp hbr).trans (HB1.out.block b hb))
theorem qng (w : World) (lo p : Nat) (A : Option Addr) (c : Nat) (Q : List qa3) (h : qmi w lo p A c Q) (hL : ∀ L at' n, qbo w lo p A c L at' n → L.length ≤ 900000) : Calls prog 63 #[.pointer (some ⟨p, 0, none⟩)] w (qdl Q w) := by
 obtain ⟨L, at', n, h1, rfl⟩ := h; have T := hid (qn5 w lo p A c L at' n h1 (hL L at' n h1)); have hp := qa0 h1.box; clear h1 hL; go_enter func63, ntmps63; go_wp2_with fail; refine T.out.mono ?_; rintro e w1 ⟨A', c', rfl, hown, hb⟩; have HO := hid hown; have HB := hid hb; clear hown hb; go_wp2_with fail; go_ret; exact ⟨A', c', rfl, HO.out, HB.out⟩
end
end Go.Proofs.YtecikkjbnkhhkaaGreat
