/- A part of the walk. -/
import Derived.Test.YtecikkjbnkhhkaaGreatP08
import Derived.Deep.OwnRows
namespace Go.Proofs.YtecikkjbnkhhkaaGreat
open _root_.Go.Proofs.Tryz
set_option maxHeartbeats 4000000
set_option maxRecDepth 100000
section
open Go.RowKit
def qbc : qab := ⟨zeros 64, zeros 64, zeros 64, false, rfl, rfl, rfl⟩
theorem qto : (prog.info? 247).map (fun i => (i.zero.map Value.cells, i.size, i.bytes)) = some (some qbc.enc.toArray, 193, 193) := by kernel_rfl
theorem qw1 (z : Array Value) (n q r : Nat) (hz : z.size = 193) (hr : r < 193) (hq : q < n) : (madeCells z (n * 193))[q * 193 + r]? = z[r]? := by
 have h1 : q * 193 + r < n * 193 := by
  have : (q + 1) * 193 ≤ n * 193 := Nat.mul_le_mul_right _ (by omega); omega
 unfold madeCells; rw [Array.getElem?_map, Array.getElem?_range, if_pos h1, Option.map_some, hz, show (q * 193 + r) % 193 = r by omega, getElem!_pos z r (by omega), Array.getElem?_eq_getElem (by omega)]
theorem qqp (n : Nat) (w : World) (h1 : 1 ≤ n) (h2 : n ≤ 258) : Calls prog 48 #[.int .i64 (n : Int)] w fun e w' => e = .returned (.tuple #[.pointer (some ⟨w.heap.size + 1, 0, none⟩), .int .i64 0]) ∧ qbb w' w.heap.size (w.heap.size + 1) w.heap.size (List.replicate n qbc) ∧ Below w.heap.size w w' := by
 have g1 : ¬ (n : Int) < 1 := by omega
 have g2 : ¬ (258 : Int) < (n : Int) := by omega
 obtain ⟨i, hi, hz, hs, hby⟩ : ∃ i, prog.info? 247 = some i ∧ i.zero.map Value.cells = some qbc.enc.toArray ∧ i.size = 193 ∧ i.bytes = 193 := by
  have := qto; cases hq : prog.info? 247 with
  | none => rw [hq] at this; cases this
  | some i => rw [hq] at this; simp at this; exact ⟨i, rfl, by simpa using this⟩
 obtain ⟨z, hz1, hz2⟩ : ∃ z, i.zero = some z ∧ z.cells = qbc.enc.toArray := by
  cases hq : i.zero with
  | none => rw [hq] at hz; cases hz
  | some z => rw [hq] at hz; simp at hz; exact ⟨z, rfl, hz⟩
 have MK := fun W => run_make (P := prog) W 154 247 i z underlying154 hi hz1 .i64 .i64 (n : Int) (n : Int) (by omega) (Int.le_refl _) (by rw [hby]; omega) (by omega)
 simp only [Int.toNat_natCast, hs, hz2] at MK; clear hz1 hz2 hz hs hby hi; go_enter func48, ntmps48; go_wp2_with fail; go_ret2; refine ⟨rfl, ⟨⟨0, 0, 0, 0, 0, ?_⟩, ⟨Nat.le_refl _, by simp [maxLen]; omega, .inr ⟨w.heap.size, 0, madeCells qbc.enc.toArray (n * 193), rfl, Nat.le_refl _, ?_, by rw [size_madeCells, List.length_replicate]; omega, fun j u hu => ?_⟩⟩, ⟨by omega, Nat.le_refl _, by omega⟩, by rw [List.length_replicate]; omega⟩, ((Below.refl _ _).alloc (Nat.le_refl _) _).alloc (by simp) _⟩
 · rw [List.length_replicate]
   exact (qa2 _ _ _).trans (by rw [if_pos (by simp)])
 · exact (Below.heap_alloc _ _ _ (by simp)).trans ((qa2 _ _ _).trans (if_pos rfl))
 · have hlt := (List.getElem?_eq_some_iff.1 hu).1
   rw [qao qab.enc_len, List.length_replicate] at hlt; obtain ⟨q, r, rfl, hq, hr⟩ : ∃ q r, j = q * 193 + r ∧ q < n ∧ r < 193 := ⟨j / 193, j % 193, by omega, by omega, by omega⟩; rw [qb0 qab.enc_len _ q (by rw [List.length_replicate]; exact hq) r hr, List.getElem_replicate] at hu; rw [Nat.zero_add, qw1 _ n q r (by rw [List.size_toArray, qab.enc_len]) hr hq, List.getElem?_toArray]; exact hu
def formed (n : Nat) : List qab := ((((((List.replicate n qbc).set 0 (qbc.over 0 (qc0 n))).set 1 (qbc.over 0 (qc3 0))).set 0 (qbc.over 0 (qc0 n)).flush).set 1 (qbc.over 0 (qc3 0)).flush).map qab.fence)
theorem qbb.of_old {w w' : World} {lo p dc : Nat} {D : List qab} (h : qbb w lo p dc D) (hb : Below w.heap.size w w') : qbb w' lo p dc D := by
 obtain ⟨k0, k1, k2, k3, k4, hx⟩ := h.box; exact ⟨⟨k0, k1, k2, k3, k4, (hb.block p (qa0 hx)).trans hx⟩, h.rows.below hb, h.lo, h.len⟩
theorem qqh (n : Nat) (w : World) (lo p dc : Nat) (h : qbb w lo p dc (List.replicate n qbc)) (h1 : 10 ≤ n) (h2 : n ≤ 258) : Calls prog 79 #[.pointer (some ⟨p, 0, none⟩)] w (qfg lo p dc (formed n) w) := by
 have H := hid h; have T0 := hid (qhn w lo p dc _ h); clear h; go_enter func79, ntmps79; go_wp2_with fail; refine T0.out.mono ?_; rintro e w1 ⟨rfl, rfl⟩; rw [List.length_replicate]; go_wp2_with fail; refine (qpu n w1 h1 h2).mono ?_; rintro e w2 ⟨x, rfl, b, rfl, hrow, hbl, hb⟩; have HROW := hid hrow; have HB := hid hb; have HD2 := hid (H.out.of_old hb); clear hrow hb hbl T0; go_wp2_with fail; have S1 := qh7 w2 lo p dc _ HD2.out 0 0 (by rw [List.length_replicate]; omega) (qc0 n) (some ⟨b, 0, none⟩) 64 HROW.out.arr0 (by intro h; have := qc4 n; rw [h] at this; cases this) (by rw [qc4]; omega) (by rw [qc4]; omega); rw [qc4, List.getElem_replicate] at S1; refine S1.mono ?_; rintro e w3 ⟨rfl, hD3, hO3⟩; have HD3 := hid hD3; have HO3 := hid ((Old2.of_below (lo := lo) (p := p) (q := dc) HB.out (by have := qa0 H.out.box.choose_spec.choose_spec.choose_spec.choose_spec.choose_spec; have := H.out.lo; omega)).trans hO3); clear hD3 hO3 S1; go_wp2_with fail; refine (qqu 0 w3 (by omega)).mono ?_; rintro e w4 ⟨_, rfl, b4, rfl, hrow, hbl, hb⟩; have HROW := hid hrow; have HB4 := hid hb; have HD4 := hid (HD3.out.of_old hb); have HO4 := hid (HO3.out.more hb (by have := qa0 HD3.out.box.choose_spec.choose_spec.choose_spec.choose_spec.choose_spec; have := H.out.lo; omega)); clear hrow hb hbl; go_wp2_with fail; have S2 := qh7 w4 lo p dc _ HD4.out 1 0 (by rw [List.length_set, List.length_replicate]; omega) (qc3 0) (some ⟨b4, 0, none⟩) 64 HROW.out.arr0 (by intro h; have := qc7 0; rw [h] at this; cases this) (by rw [qc7]; omega) (by rw [qc7]; omega); rw [qc7, List.getElem_set_ne (by omega), List.getElem_replicate] at S2; refine S2.mono ?_; rintro e w5 ⟨rfl, hD5, hO5⟩; have HD5 := hid hD5; have HO5 := hid (HO4.out.trans hO5); clear hD5 hO5 S2; go_wp2_with fail; have F0 := qlw w5 lo p dc _ HD5.out 0 (by rw [List.length_set, List.length_set, List.length_replicate]; omega); rw [List.getElem_set_ne (by omega), List.getElem_set_self] at F0; refine F0.mono ?_; rintro e w6 ⟨rfl, hD6, hO6⟩; have HD6 := hid hD6; have HO6 := hid (HO5.out.trans hO6); clear hD6 hO6 F0; go_wp2_with fail; have F1 := qlw w6 lo p dc _ HD6.out 1 (by rw [List.length_set, List.length_set, List.length_set, List.length_replicate]; omega); rw [List.getElem_set_ne (by omega), List.getElem_set_self] at F1; refine F1.mono ?_; rintro e w7 ⟨rfl, hD7, hO7⟩; have HD7 := hid hD7; have HO7 := hid (HO6.out.trans hO7); clear hD7 hO7 F1; go_wp2_with fail; refine (qta w7 lo p dc _ HD7.out).mono ?_; rintro e w8 ⟨rfl, hD8, hO8⟩; have HD8 := hid hD8; have HO8 := hid (HO7.out.trans hO8); clear hD8 hO8; go_wp2_with fail; go_ret; exact ⟨rfl, HD8.out, HO8.out⟩
end
section
open Go.RowKit
structure RdAt (w : World) (lo p rc now : Nat) (H : List Nat) : Prop where
 box : w.heap[p]? = some (.cells #[.int .u64 (now : Int), .slice (some ⟨rc, 0, none⟩) H.length H.length] 216 (0, 0))
 rows : w.heap[rc]? = some (.cells (H.map fun n : Nat => Value.int .u64 (n : Int)).toArray 125 (0, 0))
 lo : lo ≤ p ∧ lo ≤ rc ∧ p ≠ rc
 len : 1 ≤ H.length ∧ H.length ≤ 4
 now1 : 1 ≤ now ∧ now < 9223372036854775808
theorem RdAt.cell {w : World} {lo p rc now : Nat} {H : List Nat} (h : RdAt w lo p rc now H) {t : Nat} (ht : t < H.length) : w.cell? ⟨rc, t, none⟩ = some (.int .u64 (H[t] : Int)) ∧ w.frozen? ⟨rc, t, none⟩ = false ∧ rc < w.heap.size := by
 refine ⟨?_, frozen_of_row w rc t _ _ h.rows, qa0 h.rows⟩; rw [cell_of_row w rc t _ _ _ h.rows, List.getElem?_toArray, List.getElem?_map, List.getElem?_eq_getElem ht]; rfl
theorem RdAt.set {w : World} {lo p rc now : Nat} {H : List Nat} (h : RdAt w lo p rc now H) {t : Nat} (_ht : t < H.length) (v : Nat) : RdAt (w.setCell ⟨rc, t, none⟩ (.int .u64 (v : Int))) lo p rc now (H.set t v) := by
 refine ⟨by rw [List.length_set]; exact (Below.heap_setCell _ _ _ _ h.lo.2.2).trans h.box, ?_, h.lo, by rw [List.length_set]; exact h.len, h.now1⟩; have := heap_setCell_same w rc t _ _ (.int .u64 (v : Int)) h.rows; rw [this, List.map_set, List.setIfInBounds_toArray]
theorem qjv (w : World) (lo p rc now : Nat) (H : List Nat) (h : RdAt w lo p rc now H) : Calls prog 272 #[.pointer (some ⟨p, 0, none⟩)] w fun e w' => e = .returned (.int .u64 (now : Int)) ∧ w' = w := by
 have hp := qa0 h.box; have p0 := cell_of_row w p 0 _ _ _ h.box; have T := hid (qe7 p 0 (now : Int) w p0 hp); clear h p0; go_enter func272, ntmps272; go_wp2_with fail; refine T.out.mono ?_; rintro e w1 ⟨rfl, rfl⟩; go_wp2_with fail; go_ret; exact ⟨rfl, rfl⟩
theorem qfl (w : World) (lo p rc now : Nat) (H : List Nat) (h : RdAt w lo p rc now H) (t : Nat) (ht : t < H.length) : Calls prog 332 #[.pointer (some ⟨p, 0, none⟩), .int .i64 (t : Int)] w fun e w' => e = .returned (.pointer (some ⟨rc, t, none⟩)) ∧ w' = w := by
 have hp := qa0 h.box; have p1 := cell_of_row w p 1 _ _ _ h.box; have hrc := qa0 h.rows; have hti : (t : Int) < (H.length : Int) := by omega
 have ht0 : ¬ (t : Int) < 0 := by omega
 clear h; go_enter func332, ntmps332; go_wp2_with fail; go_ret; exact ⟨rfl, rfl⟩
theorem qtf (w : World) (lo p rc now : Nat) (H : List Nat) (h : RdAt w lo p rc now H) (t : Nat) (ht : t < H.length) (h0 : H[t] = 0) : Calls prog 296 #[.pointer (some ⟨p, 0, none⟩), .int .i64 (t : Int)] w fun e w' => e = .returned (.tuple #[.int .u64 (now : Int), .int .i64 0]) ∧ w' = w.setCell ⟨rc, t, none⟩ (.int .u64 (now : Int)) := by
 obtain ⟨c0, f0, l0⟩ := h.cell ht; rw [h0] at c0; have T1 := hid (qfl w lo p rc now H h t ht); have T2 := hid (qjv w lo p rc now H h); have T3 := hid (qx2 rc t 0 (now : Int) w c0 f0 l0); clear h c0 f0 h0; go_enter func296, ntmps296; go_wp2_with fail; refine T1.out.mono ?_; rintro e w1 ⟨rfl, rfl⟩; go_wp2_with fail; refine T2.out.mono ?_; rintro e w2 ⟨rfl, rfl⟩; go_wp2_with fail; refine T3.out.mono ?_; rintro e w3 ⟨rfl, rfl⟩; go_wp2_with fail; go_ret2; exact ⟨rfl, rfl⟩
end
section
open Go.RowKit
theorem qib {P : Program} {f : FuncId} {fn : Func} (hf : P.funcs[f]? = some fn) (hname : (fn.name == "runtime.NumGoroutine") = false) (hb : fn.body.isNone = true) (hn : Extern.findNext fn = none) (k : IntKind)
 (he : Extern.find fn = some (Extern.Atomic.swapT (.int k))) {a : Addr} {x y : Int} {w : World} (hc : w.cell? a = some (.int k x)) (hz : w.frozen? a = false) :
 (callFunc f #[.pointer (some a), .int k y]).run P w = .ok (.value (.int k x)) (w.setCell a (.int k y)) := by
 rw [run_callFunc_extern hf hname hb hn he]; change (Sem.run P (do
  let a' ← asAddr (.pointer (some a))
  let old ← Extern.Atomic.read (.int k) a'
  store a' (.int k y) .atomic
  pure old) w).andThen _ = _
 simp [Extern.Atomic.read, asAddr, hc, hz, run_store P w a (.int k y) .atomic rfl, Result.andThen]
theorem qrp (b o : Nat) (c d : Int) (w : World) (h : w.cell? ⟨b, o, none⟩ = some (.int .u64 c)) (hf : w.frozen? ⟨b, o, none⟩ = false) (_hb : b < w.heap.size) : Calls prog 347 #[.pointer (some ⟨b, o, none⟩), .int .u64 d] w fun e w' => e = .returned (.int .u64 c) ∧ w' = w.setCell ⟨b, o, none⟩ (.int .u64 d) := by
 have hs := qib (P := prog) func367 (by kernel_rfl) (by kernel_rfl) (by kernel_rfl) .u64 (by kernel_rfl) (y := d) h hf; go_enter func347, ntmps347; go_wp2_with fail; go_ret; exact ⟨rfl, rfl⟩
theorem qwp (w : World) (lo p rc now : Nat) (H : List Nat) (h : RdAt w lo p rc now H) (t : Nat) (ht : t < H.length) (h0 : ¬ H[t] = 0) : Calls prog 296 #[.pointer (some ⟨p, 0, none⟩), .int .i64 (t : Int)] w fun e w' => e = .returned (.tuple #[.int .u64 0, .int .i64 7]) ∧ w' = w := by
 obtain ⟨c0, f0, l0⟩ := h.cell ht; have T1 := hid (qfl w lo p rc now H h t ht); have T2 := hid (qjv w lo p rc now H h); have T3 := hid (qtq rc t (H[t] : Int) 0 (now : Int) (by omega) w c0 f0 l0); clear h c0 f0 h0; go_enter func296, ntmps296; go_wp2_with fail; refine T1.out.mono ?_; rintro e w1 ⟨rfl, rfl⟩; go_wp2_with fail; refine T2.out.mono ?_; rintro e w2 ⟨rfl, rfl⟩; go_wp2_with fail; refine T3.out.mono ?_; rintro e w3 ⟨rfl, rfl⟩; go_wp2_with fail; go_ret2; exact ⟨rfl, rfl⟩
theorem qsn (w : World) (lo p rc now : Nat) (H : List Nat) (h : RdAt w lo p rc now H) (t : Nat) (ht : t < H.length) : Calls prog 310 #[.pointer (some ⟨p, 0, none⟩), .int .i64 (t : Int)] w fun e w' => e = .returned (.int .i64 (if H[t] = 0 then 12 else 0)) ∧ w' = w.setCell ⟨rc, t, none⟩ (.int .u64 0) := by
 obtain ⟨c0, f0, l0⟩ := h.cell ht; have T1 := hid (qfl w lo p rc now H h t ht); have T3 := hid (qrp rc t (H[t] : Int) 0 w c0 f0 l0); clear h c0 f0; by_cases h0 : H[t] = 0
 · rw [if_pos h0]
   rw [h0] at T3; go_enter func310, ntmps310; go_wp2_with fail; refine T1.out.mono ?_; rintro e w1 ⟨rfl, rfl⟩; go_wp2_with fail; refine T3.out.mono ?_; rintro e w3 ⟨rfl, rfl⟩; go_wp2_with fail; go_ret; exact ⟨rfl, rfl⟩
 · rw [if_neg h0]
   generalize H[t] = v at *; have hv : ((v : Int) == 0) = false := by rw [beq_eq_false_iff_ne]; omega
   go_enter func310, ntmps310; go_wp2_with fail; refine T1.out.mono ?_; rintro e w1 ⟨rfl, rfl⟩; go_wp2_with fail; refine T3.out.mono ?_; rintro e w3 ⟨rfl, rfl⟩; go_wp2_with fail; go_ret; exact ⟨rfl, rfl⟩
theorem qv8 : (prog.info? 125).map (fun i => (i.zero.map Value.cells, i.size, i.bytes)) = some (some #[.int .u64 0], 1, 8) := by kernel_rfl
theorem qs2 (n : Nat) (w : World) (h1 : 1 ≤ n) (h2 : n ≤ 4) : Calls prog 68 #[.int .i64 (n : Int)] w fun e w' => e = .returned (.tuple #[.pointer (some ⟨w.heap.size + 1, 0, none⟩), .int .i64 0]) ∧ RdAt w' w.heap.size (w.heap.size + 1) w.heap.size 1 (List.replicate n 0) ∧ Below w.heap.size w w' := by
 have g1 : ¬ (n : Int) < 1 := by omega
 have g2 : ¬ (4 : Int) < (n : Int) := by omega
 obtain ⟨i, hi, hz, hs, hby⟩ : ∃ i, prog.info? 125 = some i ∧ i.zero.map Value.cells = some #[.int .u64 0] ∧ i.size = 1 ∧ i.bytes = 8 := by
  have := qv8; cases hq : prog.info? 125 with
  | none => rw [hq] at this; cases this
  | some i => rw [hq] at this; simp at this; exact ⟨i, rfl, by simpa using this⟩
 obtain ⟨z, hz1, hz2⟩ : ∃ z, i.zero = some z ∧ z.cells = #[.int .u64 0] := by
  cases hq : i.zero with
  | none => rw [hq] at hz; cases hz
  | some z => rw [hq] at hz; simp at hz; exact ⟨z, rfl, hz⟩
 have MK := fun W => run_make (P := prog) W 214 125 i z underlying214 hi hz1 .i64 .i64 (n : Int) (n : Int) (by omega) (Int.le_refl _) (by rw [hby]; omega) (by omega)
 simp only [Int.toNat_natCast, hs, hz2, Nat.mul_one] at MK; clear hz1 hz2 hz hs hby hi; have hmc : madeCells #[Value.int .u64 0] n = ((List.replicate n 0).map fun n : Nat => Value.int .u64 (n : Int)).toArray := by
  apply Array.ext'; rw [toList_madeCells_one, List.map_replicate]; rfl
 have HMC := hid hmc; clear hmc; go_enter func68, ntmps68; go_upto_region 4 with fail; generalize hw2 : World.alloc (World.alloc w _) _ = w2; have R0 : w2.heap[w.heap.size]? = some (.cells ((List.replicate n 0).map fun n : Nat => Value.int .u64 (n : Int)).toArray 125 (0, 0)) := by rw [← hw2, ← HMC.out]; exact (Below.heap_alloc _ _ _ (by simp)).trans ((qa2 _ _ _).trans (if_pos rfl))
 have B0 : w2.heap[w.heap.size + 1]? = some (.cells #[.int .u64 0, .slice (some ⟨w.heap.size, 0, none⟩) n n] 216 (0, 0)) := by rw [← hw2]; exact (qa2 _ _ _).trans (by rw [if_pos (by simp)])
 have b2 : Below w.heap.size w w2 := by rw [← hw2]; exact ((Below.refl _ _).alloc (Nat.le_refl _) _).alloc (by simp) _
 have HR0 := hid R0; have HB0 := hid B0; have HB2 := hid b2; have T := hid (qfn (w.heap.size + 1) 0 0 1 w2 (cell_of_row w2 _ 0 _ _ _ B0) (frozen_of_row w2 _ 0 _ _ B0) (qa0 B0)); clear hw2 R0 B0 b2 MK; go_wp2_with fail; refine T.out.mono ?_; rintro e w3 ⟨rfl, rfl⟩; go_wp2_with fail; go_ret2; refine ⟨rfl, ⟨by rw [List.length_replicate]; exact heap_setCell_same w2 _ 0 _ _ (.int .u64 1) HB0.out, (Below.heap_setCell _ _ _ _ (by simp)).trans HR0.out, ⟨by omega, Nat.le_refl _, by omega⟩, by rw [List.length_replicate]; omega, by omega⟩, HB2.out.setCell (by simp) _⟩
end
end Go.Proofs.YtecikkjbnkhhkaaGreat
