/- A part of the walk. -/
import Derived.Test.YtecikkjbnkhhkaaGreatP15
import Derived.Test.YtecikkjbnkhhkaaGreatP18
namespace Go.Proofs.YtecikkjbnkhhkaaGreat
open _root_.Go.Proofs.Tryz
set_option maxHeartbeats 2000000
set_option maxRecDepth 100000
open Go.RowKit
theorem qm3 (w : World) {b off dLen dCap : Nat} {m : ByteArray} {t : TypeId} {l : List UInt8} (row : RowB w b t l) (hfit : off + dLen ≤ l.length) : ∃ w', (∀ ty, (Builtin.copy_ #[86, 9] ty #[.slice (some ⟨b, off, none⟩) dLen dCap, .string m]).run prog w = .ok (.int .i64 ((Nat.min m.size dLen : Nat) : Int)) w') ∧ RowB w' b t (qbj l off ((bl m).take dLen)) ∧ (∀ k, k ≠ b → w'.heap[k]? = w.heap[k]?) ∧ ∀ lo w0, Below lo w0 w → lo ≤ b → Below lo w0 w' := by
 have hm : Nat.min m.size dLen ≤ dLen := Nat.min_le_right _ _; have hb : ((bl m).take dLen).length = Nat.min m.size dLen := by rw [List.length_take, qfc, Nat.min_comm]
 have hlen : (byC ((bl m).take dLen)).length = Nat.min m.size dLen := by rw [qad, hb]
 have hst := Go.run_storeCells_at prog b off t (byC ((bl m).take dLen)) 0 (byC l).toArray w row (by rw [hlen, List.size_toArray, qad]; omega) qcw; rw [hlen] at hst; simp only [Nat.add_zero] at hst; have htk : List.take (Nat.min m.size dLen) (List.map (fun b : UInt8 => Value.int IntKind.u8 (b.toNat : Int)) m.data.toList) = byC ((bl m).take dLen) := by
  rw [← List.map_take]; show byC ((bl m).take (Nat.min m.size dLen)) = byC ((bl m).take dLen)
  congr 1; have := qfc m; rcases Nat.le_total m.size dLen with h | h
  · rw [show Nat.min m.size dLen = m.size from Nat.min_eq_left h, List.take_of_length_le (by omega), List.take_of_length_le (by omega)]
  · rw [show Nat.min m.size dLen = dLen from Nat.min_eq_right h]
 have hi : (prog.info? 5).map (·.size) = some 1 := by
  have := qcu; cases hq : prog.info? 5 with
  | none => rw [hq] at this; cases this
  | some i => rw [hq] at this; simp at this; simp [this]
 have hr : ∀ ty, (Builtin.copy_ #[86, 9] ty #[.slice (some ⟨b, off, none⟩) dLen dCap, .string m]).run prog w = .ok (.int .i64 ((Nat.min m.size dLen : Nat) : Int)) (w.setRow b ((byC l).toArray.toList.take off ++ byC ((bl m).take dLen) ++ (byC l).toArray.toList.drop (off + Nat.min m.size dLen)).toArray) := fun ty => by
  cases hq : prog.info? 5 with
  | none => simp [hq] at hi
  | some i =>
   rw [hq] at hi; simp only [Option.map_some, Option.some.injEq] at hi; simp [Builtin.copy_, run_underlying (underlying86), Builtin.lenOf, Builtin.firstCells, sizeOf, typeInfo, hq]; first
    | (rw [htk, hst]; simp [Result.andThen]; done)
    | (erw [htk]; erw [hst]; simp [Result.andThen, goInt]; done)
 have e : ((byC l).toArray.toList.take off ++ byC ((bl m).take dLen) ++ (byC l).toArray.toList.drop (off + Nat.min m.size dLen)).toArray = (byC (qbj l off ((bl m).take dLen))).toArray := by
  rw [qbj, hb]; simp [byC]
 rw [e] at hr; exact ⟨_, hr, setRow_heap w b _ _ t (0, 0) row, fun k hk => setRow_other w b k _ hk, fun lo w0 hb hlo => below_setRow hb hlo _⟩
def qii (c : qa7) (k : Int) (p : Nat) : List UInt8 := if p = 0 then qgj k else qbj ((zeros 64).set 0 2) 1 (((bl (qm1 c)).drop (28 + (p - 1) * 63)).take 63)
theorem qqn {k : Int} (hk : ¬ qa9 k = 0) : (qgj k).length = 64 := qcv _ (by rw [zeros, List.length_replicate]; have := qfa k hk; omega)
section
variable {g : Own8} {w : World} {lo a b t : Nat} {P : qag} {M : qa4} {ty : TypeId} {f : qa5} {d : FrD}
def qph (a : Nat) (P : qag) (M : qa4) (D : List qab) (v : Value) (g : Own8) (w : World) (e : Ending) (w' : World) : Prop := e = .returned v ∧ ATo g w w' a P { M with D := D }
theorem qgb (h : qa6 g w a P M) (i : Nat) (hi : i < M.D.length) (m : List UInt8) (A : Option Addr) (c : Nat) (hA : Arr byE 1 w w.heap.size A m) (hm : m ≠ []) (hfit : m.length ≤ 64) (hc : m.length ≤ c) :
 Calls prog 105 #[.pointer (some ⟨P.dp, 0, none⟩), .int .i64 (i : Int), .int .i64 0, .slice A m.length c] w (qph a P M (M.D.set i (M.D[i].over 0 m)) (.int .i64 0) g w) := by
 refine (qh7 w 0 P.dp P.dc M.D h.dev.2.1 i 0 hi m A c hA hm (by omega) hc).mono ?_; rintro e w' ⟨rfl, hd, ho⟩; exact ⟨rfl, h.setDev (qcx.of2 ho.below (fun j hj h1 h2 => ho.keep j hj h1 h2) h.dev.2.2.2.1 h.dev.2.2.2.2) hd⟩
theorem qnt (h : qa6 g w a P M) (c : qa7) (n : Nat) (k : Int) (hk : ¬ qa9 k = 0) (hn : n < M.D.length) :
 Calls prog 247 #[.pointer (some ⟨a, 0, none⟩), .agg #[.int .i64 c.kind, .string c.key, .string c.val, .string c.tx, .slice c.gA c.gn c.gc], .int .i64 (n : Int), .int .i64 k, .int .i64 0] w (qph a P M (M.D.set n (M.D[n].over 0 (qgj k))) (.bool (qa9 k == 1)) g w) := by
 obtain ⟨kind, key, val, to', gA, gn, gc⟩ := c; have H := hid h; have HK := hid hk; have hd64 := qqn hk; have HD64 := hid hd64; have hs : qa9 k ≤ 8 := by unfold qa9; repeat (first | split | omega)
 have hv : (qa9 k == 1) = decide ((1 : Int) = (qa9 k : Int)) := by rw [Bool.eq_iff_iff]; simp; omega
 rw [hv]; clear h hk hd64 hv; go_enter func247, ntmps247; go_wp2_with fail; obtain ⟨w1, hw1⟩ : ∃ w1, w1 = w.alloc (.cells #[.int .i64 kind, .string key, .string val, .string to', .slice gA gn gc] 40) := ⟨_, rfl⟩; rw [← hw1]; have b1 : Below w.heap.size w w1 := by rw [hw1]; exact (Below.refl _ _).alloc (Nat.le_refl _) _
 have H1 := hid (H.out.below b1); have HB1 := hid b1; clear hw1 b1; refine (qek H1.out).mono ?_; rintro e w2 ⟨rfl, rfl⟩; go_wp2_with fail; refine (qr2 k w2 HK.out).mono ?_; rintro e w3 ⟨A, c, rfl, hown, hb3⟩; have HB3 := hid hb3; have HO := hid hown; have H3 := hid (H1.out.below hb3); rw [HD64.out]; clear hown hb3; go_wp2_with fail; have TS := qgb H3.out n hn (qgj k) A c (HO.out.arr qbn) (by intro h0; have := HD64.out; rw [h0] at this; simp at this) (by rw [HD64.out]; omega) HO.out.len; rw [HD64.out] at TS; refine TS.mono ?_; rintro e w4 ⟨rfl, g4, A4, E4⟩; have HA4 := hid A4; have HE4 := hid E4; clear A4 E4 TS; go_wp2_with fail; refine (qaw k w4).mono ?_; rintro e w5 ⟨rfl, rfl⟩; go_wp2_with fail; go_ret; exact ⟨rfl, g4, HA4.out, (Ext.below (HB1.out.trans (HB3.out.mono HB1.out.size))).trans HE4.out⟩
theorem qqq {c : qa7} (hk : c.key.size ≤ 1000) (hv : c.val.size ≤ 1000) : (qm1 c).size ≤ 2000 := by
 unfold qm1; split
 · rw [ByteArray.size_append]; omega
 · split
   · omega
   · exact Nat.zero_le _
theorem qql (s : ByteArray) (k n : Nat) (hn : s.size ≤ n) : bl (s.extract k n) = (bl s).drop k := by
 have e : s = strB (bl s) := rfl; rw [e, qe0]; show List.take (n - k) (List.drop k (bl s)) = List.drop k (bl s)
 exact List.take_of_length_le (by rw [List.length_drop, qfc]; omega)
theorem qnu (h : qa6 g w a P M) (c : qa7) (hck : c.key.size ≤ 1000) (hcv : c.val.size ≤ 1000) (n p : Nat) (k : Int) (hp : 1 ≤ p) (hp8 : p ≤ 8) (hn : n + p < M.D.length) :
 Calls prog 247 #[.pointer (some ⟨a, 0, none⟩), .agg #[.int .i64 c.kind, .string c.key, .string c.val, .string c.tx, .slice c.gA c.gn c.gc], .int .i64 (n : Int), .int .i64 k, .int .i64 (p : Int)] w (qph a P M (M.D.set (n + p) (M.D[n + p].over 0 (qii c k p))) (.bool (decide (p + 1 = qa9 k))) g w) := by
 have hlen : M.D.length ≤ 258 := h.dev.2.1.len.2; have hds := qqq hck hcv; have TB := fun W => qqk c W (by omega) (by omega)
 have hwl : qii c k p = qbj ((zeros 64).set 0 2) 1 (((bl (qm1 c)).drop (28 + (p - 1) * 63)).take 63) := if_neg (by omega); have HWL := hid hwl; have HTB := hid TB; have H := hid h; generalize qm1 c = s at *; obtain ⟨kind, key, val, to', gA, gn, gc⟩ := c; obtain ⟨q, hq⟩ : ∃ q, q = p - 1 := ⟨_, rfl⟩; obtain ⟨np, hnp⟩ : ∃ x, x = n + p := ⟨_, rfl⟩; obtain ⟨p1, hp1⟩ : ∃ x, x = p + 1 := ⟨_, rfl⟩; obtain ⟨fr, hfr⟩ : ∃ x, x = 28 + q * 63 := ⟨_, rfl⟩; obtain ⟨fm, hfm⟩ : ∃ x, x = min fr s.size := ⟨_, rfl⟩; have hpb : ((p : Int) == 0) = false := by rw [beq_eq_false_iff_ne]; omega
 have hi1 : IntKind.i64.wrap ((p : Int) - 1) = (q : Int) := by rw [Go.IntWalk.i64_in _ (by omega)]; omega
 have hi2 : IntKind.i64.wrap ((q : Int) * 63) = (q : Int) * 63 := Go.IntWalk.i64_in _ (by omega); have hi3 : IntKind.i64.wrap (28 + (q : Int) * 63) = (fr : Int) := by rw [Go.IntWalk.i64_in _ (by omega)]; omega
 have hi4 : IntKind.i64.wrap ((n : Int) + (p : Int)) = (np : Int) := by rw [Go.IntWalk.i64_in _ (by omega)]; omega
 have hi5 : IntKind.i64.wrap ((p : Int) + 1) = (p1 : Int) := by rw [Go.IntWalk.i64_in _ (by omega)]; omega
 have HI4 := hid hi4; have HI5 := hid hi5; have hmx : max (fr : Int) 0 = (fr : Int) := by omega
 have hmn : min (fr : Int) (s.size : Int) = (fm : Int) := by omega
 have hfs : (fm : Int) ≤ (s.size : Int) := by omega
 have hf0 : (0 : Int) ≤ (fm : Int) := by omega
 have HE : Hid (n + p = np ∧ p + 1 = p1 ∧ q = p - 1 ∧ fr = 28 + q * 63 ∧ fm = min fr s.size) := hid ⟨hnp.symm, hp1.symm, hq, hfr, hfm⟩; obtain ⟨L, hL⟩ : ∃ L, L = qii ⟨kind, key, val, to', gA, gn, gc⟩ k p := ⟨_, rfl⟩; have HL := hid hL; have hn' : np < M.D.length := by omega
 have HEQ : M.D.set (n + p) (M.D[n + p].over 0 (qii ⟨kind, key, val, to', gA, gn, gc⟩ k p)) = M.D.set np (M.D[np].over 0 L) := by subst hL; subst hnp; rfl
 have HV : decide (p + 1 = qa9 k) = ((p1 : Int) == (qa9 k : Int)) := by rw [Bool.eq_iff_iff]; simp; omega
 rw [HEQ, HV]; clear h TB hwl hck hcv hq hnp hp1 hfr hfm hi4 hi5 hL HEQ HV; go_enter func247, ntmps247; go_upto_region 3 with fail; obtain ⟨w1, hw1⟩ : ∃ w1, w1 = w.alloc (.cells #[.int .i64 kind, .string key, .string val, .string to', .slice gA gn gc] 40) := ⟨_, rfl⟩; rw [← hw1]; have b1 : Below w.heap.size w w1 := by rw [hw1]; exact (Below.refl _ _).alloc (Nat.le_refl _) _
 have R1 : w1.heap[w.heap.size]? = some (.cells #[.int .i64 kind, .string key, .string val, .string to', .slice gA gn gc] 40 (0, 0)) := by rw [hw1]; exact (qa2 _ _ _).trans (if_pos rfl)
 obtain ⟨w2, HMK0, R2, hb2, hs2⟩ := qnd 64 (by omega) w1; obtain ⟨B, hB⟩ : ∃ B, B = w1.heap.size := ⟨_, rfl⟩; rw [← hB] at R2 HMK0 hs2; have HMK : (Instr.makeSlice 86 (.int .i64 64) (.int .i64 64)).run prog w1 = .ok (.slice (some ⟨B, 0, none⟩) 64 64) w2 := HMK0; have b2 : Below w.heap.size w w2 := b1.trans (hb2.mono b1.size); have R12 := qac hb2 (qa0 R1) R1; have hl0 := qa0 R1; have hBw : w.heap.size < B := by omega
 have z0 := R2.cell (i := 0) (by simp [zeros]); have f0 := frozen_of_row w2 _ 0 _ _ R2; have hl2 := qa0 R2; have HR2 := hid R2; have HR12 := hid R12; have HB2 := hid b2; clear hw1 b1 R1 hb2 hs2 b2 R2 R12 hB hl0 HMK0; go_upto_region 5 with fail; obtain ⟨w3, hw3⟩ : ∃ w3, w3 = w2.setCell ⟨B, 0, none⟩ (.int .u8 2) := ⟨_, rfl⟩; rw [← hw3]; have R3 : RowB w3 B 5 ((zeros 64).set 0 2) := by rw [hw3]; exact HR2.out.put1 0 2
 have R13 := (show w3.heap[w.heap.size]? = w2.heap[w.heap.size]? by rw [hw3]; exact Below.heap_setCell _ _ _ _ (by show w.heap.size ≠ B; omega)).trans HR12.out; have B3 : Below w.heap.size w w3 := by rw [hw3]; exact HB2.out.setCell (Nat.le_of_lt hBw) _
 have k0 := cell_of_row w3 _ 0 _ _ _ R13; have k1 := cell_of_row w3 _ 1 _ _ _ R13; have k2 := cell_of_row w3 _ 2 _ _ _ R13; have k3 := cell_of_row w3 _ 3 _ _ _ R13; have k4 := cell_of_row w3 _ 4 _ _ _ R13; have hl3 := qa0 R13; have HR3 := hid R3; have HB3 := hid B3; clear hw3 z0 f0 hl2 R3 R13 B3 HR2 HR12 HB2; go_wp2_with fail; refine (HTB.out w3).mono ?_; rintro e w4 ⟨rfl, hb4⟩; have HR4 := hid (HR3.out.below hb4 (qa0 HR3.out)); have HB4 := hid (HB3.out.trans (hb4.mono HB3.out.size)); have hl4 := qa0 HR4.out; clear k0 k1 k2 k3 k4 hl3 hb4 HR3 HB3; go_upto_region 7 with fail; go_still_tail 5, (by kernel_rfl); change wpList _ _ _ _ _ (World.drew w4); generalize hw5 : World.drew w4 = w5; have HR5 : Hid (RowB w5 B 5 ((zeros 64).set 0 2)) := hid (by rw [← hw5]; exact HR4.out); have HB5 : Hid (Below w.heap.size w w5) := hid (by rw [← hw5]; exact HB4.out.drew); have hs5 : w5.heap.size = w4.heap.size := by rw [← hw5]; rfl
 obtain ⟨w6, HCP, R6, O6, B6⟩ := qm3 w5 (off := 1) (dLen := 63) (dCap := 63) (m := s.extract fm s.size) HR5.out (by simp [zeros]); have HR6 := hid R6; have HB6 := hid (B6 _ _ HB5.out (Nat.le_of_lt hBw)); have HL6 := hid (qa0 R6); generalize Nat.min (s.extract fm s.size).size 63 = nc at HCP; clear hw5 hs5 R6 O6 B6 HR4 HB4 HR5 HB5 hl4; go_upto_region 8 with fail; have HE1 := HE.out; have hw8 : qbj ((zeros 64).set 0 2) 1 ((bl (s.extract fm s.size)).take 63) = L := by
  rw [HL.out, HWL.out, qql s fm s.size (Nat.le_refl _), HE1.2.2.2.2, HE1.2.2.2.1, HE1.2.2.1]; congr 2; rcases Nat.le_total (28 + (p - 1) * 63) s.size with h0 | h0
  · rw [Nat.min_eq_left h0]
  · rw [Nat.min_eq_right h0, List.drop_of_length_le (by rw [qfc]; exact Nat.le_refl _), List.drop_of_length_le (by rw [qfc]; exact h0)]
 have R6 := HR6.out; rw [hw8] at R6; have hlw : L.length = 64 := by
  rw [← hw8, qc1 (by simp [zeros]; omega)]; simp [zeros]
 have H6 := hid (H.out.below HB6.out); have HLN := hid hlw; have R6A := R6.arr0; have HRA := hid R6A; have i4 := HI4.out; clear HE1 hw8 R6 R6A hlw HR6 HL6 HWL HE HCP HL; go_wp2_with fail; refine (qek H6.out).mono ?_; rintro e w7 ⟨rfl, rfl⟩; clear HMK hi1 hi2 hi3 hmx hmn hfs hf0 hpb; go_wp2_with fail; have TS := qgb H6.out np hn' L (some ⟨B, 0, none⟩) 64 HRA.out (by intro h0; have := HLN.out; rw [h0] at this; simp at this) (by rw [HLN.out]; omega) (by rw [HLN.out]; omega); rw [HLN.out] at TS; refine TS.mono ?_; rintro e w8 ⟨rfl, g8, A8, E8⟩; have HA8 := hid A8; have HE8 := hid E8; clear A8 E8 TS i4; have i5 := HI5.out; go_wp2_with fail; refine (qaw k w8).mono ?_; rintro e w9 ⟨rfl, rfl⟩; go_wp2_with fail; go_ret; exact ⟨rfl, g8, HA8.out, (Ext.below HB6.out).trans HE8.out⟩
end
end Go.Proofs.YtecikkjbnkhhkaaGreat
