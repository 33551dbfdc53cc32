/- A part of the walk. -/
import Derived.Test.YtecikkjbnkhhkaaGreatP12
import Derived.Test.YtecikkjbnkhhkaaGreatP13
namespace Go.Proofs.YtecikkjbnkhhkaaGreat
open _root_.Go.Proofs.Tryz
set_option maxHeartbeats 2000000
set_option maxRecDepth 100000
section
open Go.RowKit
structure qbb (w : World) (lo p dc : Nat) (D : List qab) : Prop where
 box : ∃ c0 c1 c2 c3 c4 : Int, w.heap[p]? = some (.cells #[.slice (some ⟨dc, 0, none⟩) D.length D.length, .int .i64 c0, .int .i64 c1, .int .i64 c2, .int .i64 c3, .int .i64 c4] 160 (0, 0))
 rows : Own qab.enc 247 193 w lo (some ⟨dc, 0, none⟩) D.length D
 lo : lo ≤ p ∧ lo ≤ dc ∧ p ≠ dc
 len : 1 ≤ D.length ∧ D.length ≤ 258
theorem qez (w : World) (lo p dc : Nat) (D : List qab) (h : qbb w lo p dc D) (i at' n : Nat) (hi : i < D.length) (hn : at' + n ≤ 64) : Calls prog 115 #[.pointer (some ⟨p, 0, none⟩), .int .i64 (i : Int), .int .i64 (at' : Int), .int .i64 (n : Int)] w fun e w' => e = .returned (.int .i64 0) ∧ w' = w := by
 obtain ⟨k0, k1, k2, k3, k4, hb⟩ := h.box; have hlen := h.len; have hp := qa0 hb; have p0 := cell_of_row w p 0 _ _ _ hb; have g0 : ¬ (i : Int) < 0 := by omega
 have g1 : ¬ (D.length : Int) ≤ (i : Int) := by omega
 have g2 : ¬ (at' : Int) < 0 := by omega
 have g3 : IntKind.i64.wrap ((64 : Int) - (n : Int)) = 64 - (n : Int) := Go.IntWalk.i64_in _ (by omega); have g4 : ¬ 64 - (n : Int) < (at' : Int) := by omega
 clear h hb; go_enter func115, ntmps115; go_wp2_with fail; go_ret; exact ⟨rfl, rfl⟩
theorem qvc (w : World) (lo p dc : Nat) (D : List qab) (h : qbb w lo p dc D) (i : Int) (hi : i < 0 ∨ (D.length : Int) ≤ i) (at' n : Int) : Calls prog 115 #[.pointer (some ⟨p, 0, none⟩), .int .i64 i, .int .i64 at', .int .i64 n] w fun e w' => e = .returned (.int .i64 2) ∧ w' = w := by
 obtain ⟨k0, k1, k2, k3, k4, hb⟩ := h.box; have hlen := h.len; have hp := qa0 hb; have p0 := cell_of_row w p 0 _ _ _ hb; clear h hb; by_cases g0 : i < 0
 · go_enter func115, ntmps115
   go_wp2_with fail; go_ret; exact ⟨rfl, rfl⟩
 · have g1 : (D.length : Int) ≤ i := by omega
   go_enter func115, ntmps115; go_wp2_with fail; go_ret; exact ⟨rfl, rfl⟩
theorem qhn (w : World) (lo p dc : Nat) (D : List qab) (h : qbb w lo p dc D) : Calls prog 69 #[.pointer (some ⟨p, 0, none⟩)] w fun e w' => e = .returned (.int .i64 (D.length : Nat)) ∧ w' = w := by
 obtain ⟨k0, k1, k2, k3, k4, hb⟩ := h.box; have hp := qa0 hb; have p0 := cell_of_row w p 0 _ _ _ hb; clear h hb; go_enter func69, ntmps69; go_wp2_with fail; go_ret; exact ⟨rfl, rfl⟩
theorem qbb.count {w : World} {lo p dc : Nat} {D : List qab} (h : qbb w lo p dc D) {q : Nat} (hq : 1 ≤ q ∧ q ≤ 5) (v : Int) : qbb (w.setCell ⟨p, q, none⟩ (.int .i64 v)) lo p dc D := by
 obtain ⟨k0, k1, k2, k3, k4, hb⟩ := h.box; have hs := heap_setCell_same _ p q _ _ (.int .i64 v) hb; refine ⟨?_, h.rows.of_heap (Below.heap_setCell _ _ _ _ (Ne.symm h.lo.2.2)), h.lo, h.len⟩; rcases (by omega : q = 1 ∨ q = 2 ∨ q = 3 ∨ q = 4 ∨ q = 5) with rfl | rfl | rfl | rfl | rfl
 · exact ⟨v, k1, k2, k3, k4, hs⟩
 · exact ⟨k0, v, k2, k3, k4, hs⟩
 · exact ⟨k0, k1, v, k3, k4, hs⟩
 · exact ⟨k0, k1, k2, v, k4, hs⟩
 · exact ⟨k0, k1, k2, k3, v, hs⟩
theorem qbb.set {w w' : World} {lo p dc : Nat} {D D' : List qab} (h : qbb w lo p dc D) (hr : Own qab.enc 247 193 w' lo (some ⟨dc, 0, none⟩) D.length D') (hl : D'.length = D.length) (hh : w'.heap[p]? = w.heap[p]?) : qbb w' lo p dc D' := by
 obtain ⟨k0, k1, k2, k3, k4, hb⟩ := h.box; exact ⟨⟨k0, k1, k2, k3, k4, by rw [hh, hl]; exact hb⟩, by rw [hl]; exact hr, h.lo, by rw [hl]; exact h.len⟩
theorem qbb.cnt {w : World} {lo p dc : Nat} {D : List qab} (h : qbb w lo p dc D) {q : Nat} (hq : 1 ≤ q ∧ q ≤ 5) : ∃ c : Int, w.cell? ⟨p, q, none⟩ = some (.int .i64 c) ∧ w.frozen? ⟨p, q, none⟩ = false ∧ p < w.heap.size := by
 obtain ⟨k0, k1, k2, k3, k4, hb⟩ := h.box; have hp := qa0 hb; have hf := frozen_of_row w p q _ _ hb; rcases (by omega : q = 1 ∨ q = 2 ∨ q = 3 ∨ q = 4 ∨ q = 5) with rfl | rfl | rfl | rfl | rfl
 · exact ⟨k0, cell_of_row w p 1 _ _ _ hb, hf, hp⟩
 · exact ⟨k1, cell_of_row w p 2 _ _ _ hb, hf, hp⟩
 · exact ⟨k2, cell_of_row w p 3 _ _ _ hb, hf, hp⟩
 · exact ⟨k3, cell_of_row w p 4 _ _ _ hb, hf, hp⟩
 · exact ⟨k4, cell_of_row w p 5 _ _ _ hb, hf, hp⟩
theorem qq8 : prog.underlying 245 = some (.array (prog.arrayLen 245) (prog.elem 245)) := by kernel_rfl
theorem qoy : prog.arrayLen 245 = 64 := by kernel_rfl
theorem qsm : (prog.info? (prog.elem 245)).map (·.size) = some 1 := by kernel_rfl
theorem qpy (b o l : Nat) (hl : l < 64) (W : World) : (Instr.sliceAt 245 (.pointer (some ⟨b, o, none⟩)) (some (.int .i64 (l : Int))) none none).run prog W = .ok (.slice (some ⟨b, o + l, none⟩) (64 - l) (64 - l)) W := by
 rw [run_sliceAt_array_l (P := prog) W 245 ⟨b, o, none⟩ qq8 .i64 (l : Int) (by omega) (by rw [qoy]; omega), qoy]; have hs : (sizeOf (prog.elem 245)).run prog W = .ok 1 W := by
  have h := qsm; cases hq : prog.info? (prog.elem 245) with
  | none => rw [hq] at h; cases h
  | some i => rw [hq] at h; simp at h; simp [sizeOf, typeInfo, hq, h]
 rw [hs]; simp only [Result.andThen_ok, slicedAt, Int.toNat_natCast]; rw [if_neg (by omega), Nat.mul_one, Addr.add_mid]
def qfg (lo p dc : Nat) (D : List qab) (w : World) (e : Ending) (w' : World) : Prop := e = .returned (.int .i64 0) ∧ qbb w' lo p dc D ∧ Old2 lo p dc w w'
theorem qh7 (w : World) (lo p dc : Nat) (D : List qab) (h : qbb w lo p dc D) (i at' : Nat) (hi : i < D.length) (m : List UInt8) (A : Option Addr) (c : Nat) (hA : Arr byE 1 w w.heap.size A m) (hm : m ≠ []) (hfit : at' + m.length ≤ 64) (_hc : m.length ≤ c) :
 Calls prog 105 #[.pointer (some ⟨p, 0, none⟩), .int .i64 (i : Int), .int .i64 (at' : Int), .slice A m.length c] w (qfg lo p dc (D.set i (D[i].over at' m)) w) := by
 have H := hid h; have HA := hid hA; have HM := hid hm; have hm0 : 0 < m.length := List.length_pos_iff.2 hm; have hsl := qpy dc (i * 193) at' (by omega); obtain ⟨k0, k1, k2, k3, k4, hb⟩ := h.box; have hlen := h.len; have hp := qa0 hb; have p0 := cell_of_row w p 0 _ _ _ hb; have hpart := h.rows.part qab.enc_len hi (o := at') (vs := byC ((D[i].now.drop at').take m.length)) (by rw [qad, List.length_take, List.length_drop, D[i].hn]; omega) (fun j hj => by
  rw [qad, List.length_take, List.length_drop, D[i].hn] at hj
  rw [qab.e_now _ (by omega), byC, byC, List.getElem?_map, List.getElem?_map, List.getElem?_take, if_pos (by omega), List.getElem?_drop])
 have hth : w.there dc (i * 193 + at') m.length := by
  have := hpart.2.1; rwa [Nat.zero_add, qad, List.length_take, List.length_drop, D[i].hn, Nat.min_eq_left (by omega)] at this
 have HTH := hid hth; have hdc := hpart.2.2; have hii : (i : Int) < (D.length : Int) := by omega
 have T0 := hid (qez w lo p dc D h i at' m.length hi hfit); clear h hA hm hb hpart hth; go_enter func105, ntmps105; go_wp2_with fail; refine T0.out.mono ?_; rintro e w1 ⟨rfl, rfl⟩; go_upto_region 5 with (refine qgm (m := m) (A := A) w1 rfl (.tmp 27) (.tmp 28) rfl (by first | rfl | simp [Act.eval]) (by first | rfl | simp [Act.eval]) HA.out HM.out (by omega) HTH.out ?_); have hR : Own qab.enc 247 193 (w1.setCells dc (i * 193 + at') (byC m)) lo (some ⟨dc, 0, none⟩) D.length (D.set i (D[i].over at' m)) := by
  have := H.out.rows.setPart qab.enc_len hi (D[i].over at' m) at' (byC m) (by rw [qad]; omega) (qab.over_same _ hfit) (qab.over_new _ hfit); rwa [Nat.zero_add] at this
 have hD := H.out.set hR (by simp) (qb2 _ _ _ _ _ H.out.lo.2.2); have hO : Old2 lo p dc w1 (w1.setCells dc (i * 193 + at') (byC m)) := (Old2.refl _ _ _ _).setsQ H.out.lo.2.1 _ _; simp only [Act.put, List.setIfInBounds_toArray, List.set_cons_succ, List.set_cons_zero]; generalize World.setCells _ _ _ _ = w2 at *; have HD := hid hD; have HO := hid hO; obtain ⟨c9, n0, nf, hp2⟩ := hD.cnt (q := 1) (by omega); clear hD hO hR T0 p0 hsl; go_wp2_with fail; refine (qgx p 1 c9 1 w2 n0 nf hp2).mono ?_; rintro e w3 ⟨v9, rfl, rfl⟩; go_wp2_with fail; go_ret; exact ⟨rfl, HD.out.count (by omega) v9, HO.out.setP HD.out.lo.1 _ _⟩
end
section
open Go.RowKit
def qdl (m : List qa3) (w : World) (e : Ending) (w' : World) : Prop := ∃ A c, e = .returned (.slice A m.length c) ∧ Own qa3.enc 85 5 w' w.heap.size A c m ∧ Below w.heap.size w w'
theorem qn5 (w : World) (lo p : Nat) (A : Option Addr) (c : Nat) (L : List qa3) (at' n : Nat) (h : qbo w lo p A c L at' n) (hL : L.length ≤ 900000) : Calls prog 99 #[.pointer (some ⟨p, 0, none⟩)] w (qdl (qd4 L at' n) w) := by
 have hp := qa0 h.box; have hfit := h.fit; have hmx := qbf (at' := at') hfit.1; obtain ⟨M, hM⟩ : ∃ M, M = qd4 L at' n := ⟨_, rfl⟩; rw [← hM] at hmx ⊢; have HMX := hid hmx; have HM := hid hM; have H := hid h; have p0 := cell_of_row w p 0 _ _ _ h.box; have p1 := cell_of_row w p 1 _ _ _ h.box; have p2 := cell_of_row w p 2 _ _ _ h.box; simp only [List.getElem?_toArray, List.getElem?_cons_zero, List.getElem?_cons_succ] at p0 p1 p2; clear h hM hmx; go_enter func99, ntmps99; go_wp2_with fail; go_loopw [3, 4, 9] (fun v3 _ v9 wr => ∃ (i : Nat) (A' : Option Addr) (c' : Nat) (N : List qa3), i ≤ n ∧ v9 = .int .i64 i ∧ v3 = .slice A' N.length c' ∧ Hid (N = M.take i) ∧ Own qa3.enc 85 5 wr w.heap.size A' c' N ∧ Below w.heap.size w wr) (fun _ _ v9 _ => n - (intOf v9).toNat)
 case atStart => exact ⟨0, none, 0, [], by omega, rfl, rfl, hid rfl, Own.none_, Below.refl _ _⟩
 case round =>
  obtain ⟨i, A', c', N, hi, rfl, rfl, HN, hown, hb⟩ := hrel; have HO := hid hown; have HB := hid hb; have hsz := hb.size; have hln : N.length = i := by rw [HN.out, List.length_take, HMX.out]; omega
  by_cases hlt : i < n
  · have hat : at' < L.length := by rcases hfit.2 with h0 | h0 <;> omega
    have hk : (at' + i) % L.length < L.length := Nat.mod_lt _ (by omega); have hgt : M[i]'(by rw [HMX.out]; exact hlt) = L[(at' + i) % L.length] := by
     simp only [HM.out]; exact qe6 hfit.1 hat hlt
    have e3 : Int.tmod ((at' : Int) + (i : Int)) (L.length : Int) = (((at' + i) % L.length : Nat) : Int) := by rw [show (at' : Int) + (i : Int) = ((at' + i : Nat) : Int) by omega, Int.ofNat_tmod]
    have i2 : IntKind.i64.wrap (((at' + i) % L.length : Nat) : Int) = (((at' + i) % L.length : Nat) : Int) := Go.IntWalk.i64_in _ (by omega); have i1 : IntKind.i64.wrap ((at' : Int) + (i : Int)) = (at' : Int) + (i : Int) := Go.IntWalk.i64_in _ (by omega); have htk : M.take (i + 1) = M.take i ++ [M[i]'(by rw [HMX.out]; exact hlt)] := by rw [List.take_add_one, List.getElem?_eq_getElem (by rw [HMX.out]; exact hlt)]; rfl
    rw [hgt] at htk; clear hgt; obtain ⟨k, hkk⟩ : ∃ k, k = (at' + i) % L.length := ⟨_, rfl⟩; rw [← hkk] at e3 i2 hk; have htk' : M.take (i + 1) = M.take i ++ [L[k]] := by rw [htk]; simp only [hkk]
    have HTK := hid htk'; have hki : (k : Int) < (L.length : Int) := by omega
    have q0 := (hb.cell (p := ⟨p, 0, none⟩) hp).trans p0; have q1 := (hb.cell (p := ⟨p, 1, none⟩) hp).trans p1; have q2 := (hb.cell (p := ⟨p, 2, none⟩) hp).trans p2; have H3 := H.out.keep (hb.block p hp) (fun b _ hl => hb.block b hl); obtain ⟨b, off, rfl, hB, k0, k1, k2, k3, k4⟩ := (H3.rows.arr qa3.enc_len).link hk; have hpw : p < wr.heap.size := by omega
    have hL2 : ¬ L.length = 0 := by omega
    have hL3 : ¬ L = [] := fun h0 => by rw [h0] at hL2; exact hL2 rfl
    have hL0 : ¬ (L.length : Int) = 0 := by omega
    have hL1 : ((L.length : Int) == 0) = false := by rw [beq_eq_false_iff_ne]; exact hL0
    have hlti : (i : Int) < (n : Int) := by omega
    have HX := hid (show L[k].val = .agg #[.string L[k].key, .int .u64 (L[k].id : Int), .int .u64 (L[k].ver : Int), .int .i64 L[k].line, .int .i64 L[k].cls] from rfl); have HLN := hid hln; have hiN : i + 1 ≤ 1000000 := by have := hfit.1; omega
    clear hown hb htk htk' H3 hkk p0 p1 p2 hfit hln; go_upto_region 5 with fail; obtain ⟨i0, hi0, hz0, hz1, hz2⟩ := info_parts qct; have HI0 := hid hi0; have HZ0 := hid hz0; have HZ1 := hid hz1; have HZ2 := hid hz2; clear hi0 hz0 hz1 hz2; go_region_law (refine qbe (l := N) (m := [L[k]]) (A := A') (c := c') (lo := w.heap.size) _ rfl (.tmp 12) (.tmp 31) 141 rfl i0 _ 48 underlying141 HI0.out HZ0.out HZ1.out HZ2.out rfl (by decide) qa3.enc_len qa3.enc_one (by simp [Act.eval]) (by first | exact HO.out.alloc _ | exact HO.out.drew.alloc _ | exact (HO.out.alloc _).drew) (A2 := some ⟨wr.heap.size, 0, none⟩) 1 (by simp [Act.eval]) (qdu (x := L[k]) (by first | (rw [qa2, if_pos (by simp)]; rfl) | (show (World.alloc _ _).heap[_]? = _; rw [qa2, if_pos (by simp)]; rfl))) (by have := HLN.out; unfold maxLen; simp; omega) (by have := HLN.out; simp; omega) (by have := HB.out.size; simp; omega) ?_; intro A5 c5 w5 hown5 hgr5 hloc5); all_goals
     have b5 : Below w.heap.size w w5 := qck (by first | exact HO.out.alloc _ | exact HO.out.drew.alloc _ | exact (HO.out.alloc _).drew) hgr5 (by first | exact HB.out.alloc hsz _ | exact HB.out.drew.alloc hsz _ | exact (HB.out.alloc hsz _).drew) (by simp; omega); have HB5 := hid b5; have HO5 := hid hown5; clear b5 hown5 hgr5 hloc5; go_wp2_with fail; exact ⟨⟨i + 1, A5, c5, N ++ [L[k]], by omega, by go_num, by simp, hid (by rw [HTK.out, HN.out]), HO5.out, HB5.out⟩, by simp [intOf]; omega⟩
  · obtain rfl : i = n := by omega
    have hall : M.take i = M := List.take_of_length_le (by rw [HMX.out]; exact Nat.le_refl _); have HALL := hid hall; have HLN := hid hln; clear hown hb hall hln; go_wp2_with fail; go_ret; have e : N = M := HN.out.trans HALL.out; subst e; exact ⟨A', c', rfl, HO.out, HB.out⟩
theorem qll (w : World) (lo p : Nat) (A : Option Addr) (c : Nat) (Q : List qa3) (x : qa3) (h : qmi w lo p A c Q) (hlow : lo ≤ w.heap.size) (hL : ∀ L at' n, qbo w lo p A c L at' n → L.length ≤ 100000) : Calls prog 284 #[.pointer (some ⟨p, 0, none⟩), x.val] w (qff lo p A c (Q ++ [x]) w) := by
 obtain ⟨L, at', n, h1, rfl⟩ := h; have hl := hL L at' n h1; have hp := qa0 h1.box; have H1 := hid h1; have HXV := hid (show x.val = .agg #[.string x.key, .int .u64 (x.id : Int), .int .u64 (x.ver : Int), .int .i64 x.line, .int .i64 x.cls] from rfl); have T : ∀ W, Below w.heap.size w W → Calls prog 329 #[.pointer (some ⟨p, 0, none⟩), x.val] W (qff lo p A c (qd4 L at' n ++ [x]) W) := fun W hb => by
  have h2 := H1.out.keep (hb.block p hp) (fun b _ hlt => hb.block b hlt); have hlw : lo ≤ W.heap.size := Nat.le_trans hlow hb.size; by_cases hn : n < L.length
  · exact qjw W lo p A c L at' n x h2 hn hlw (by omega)
  · obtain rfl : n = L.length := by have := h1.fit.1; omega
    exact qjx W lo p A c L at' x h2 hlw hl
 have HT := hid T; clear T h1 hL; rw [HXV.out]; go_enter func284, ntmps284; go_upto_region 1 with fail; generalize hw1 : World.alloc w _ = w1; have R1 : w1.heap[w.heap.size]? = some (.cells x.enc.toArray 85 (0, 0)) := by rw [← hw1]; exact (qa2 _ _ _).trans (if_pos rfl)
 have b1 : Below w.heap.size w w1 := by rw [← hw1]; exact (Below.refl _ _).alloc (Nat.le_refl _) _
 have hl1 := qa0 R1; have HB1 := hid b1; have HNR : Hid (∀ b, some b = qa8 A c → b < w.heap.size) := hid fun b hb => by
  rcases H1.out.rows.lt with h0 | ⟨b', off', hA, _, hlt⟩
  · rw [qa8, if_pos h0] at hb; cases hb
  · rw [qa8] at hb
    split at hb
    · cases hb
    · rw [hA] at hb; cases hb; exact hlt
 have r0 := cell_of_row w1 _ 0 _ _ _ R1; have r1 := cell_of_row w1 _ 1 _ _ _ R1; have r2 := cell_of_row w1 _ 2 _ _ _ R1; have r3 := cell_of_row w1 _ 3 _ _ _ R1; have r4 := cell_of_row w1 _ 4 _ _ _ R1; simp only [qa3.enc, List.getElem?_toArray, List.getElem?_cons_zero, List.getElem?_cons_succ] at r0 r1 r2 r3 r4; clear hw1 R1 b1; go_wp2_with fail; go_region_with (go_at_call 329; (try rw [← HXV.out]); refine (HT.out _ (by first | exact HB1.out | exact HB1.out.drew | exact qa1 HB1.out _)).mono ?_; rintro e w2 ⟨rfl, hto⟩); all_goals
  have HTO := hid hto; clear hto; go_wp2_with fail; refine bodyPost_ret (v := .tuple #[]) (by simp [results, results284]) rfl ⟨rfl, ?_⟩; obtain ⟨⟨A', c', hq, hloc⟩, hbel, hk, hring⟩ := HTO.out; have hs1 := HB1.out.size; refine ⟨⟨A', c', hq, hloc.imp id fun ⟨g, off, h1, h2⟩ => ⟨g, off, h1, by simp at h2; omega⟩⟩, ((HB1.out.mono hlow).trans ⟨hbel.os, hbel.tape, hbel.output, hbel.size, hbel.block⟩), fun b hb hbp hbr => (hk b (by simp; omega) hbp hbr).trans (HB1.out.block b hb), fun K hK hQ => hring K ((hK.same (HB1.out.block p hp))) hQ⟩
end
end Go.Proofs.YtecikkjbnkhhkaaGreat
