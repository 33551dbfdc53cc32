/- A part of the walk. -/
import Derived.Test.YtecikkjbnkhhkaaGreatP02
namespace Go.Proofs.YtecikkjbnkhhkaaGreat
open _root_.Go.Proofs.Tryz
set_option maxHeartbeats 4000000
set_option maxRecDepth 100000
section
open Go.RowKit
theorem RowB.there {w : World} {b : Nat} {t : TypeId} (h : RowB w b t (zeros 64)) : w.there b 0 64 := fun j hj => by
 have h1 := h.cell (i := j) (by simpa [zeros] using hj)
 rw [Nat.zero_add, h1]
 exact ⟨rfl, frozen_of_row w _ _ _ _ h⟩
def qip : List UInt8 := [4, 70, 85, 83, 69, 0, 0, 0, 0]
def qc0 (v : Nat) : List UInt8 := qcd (putL qip 5 v 4)
theorem ql3 {m : List UInt8} (hm : m.length = 9) : (qcd m).length = 64 := by rw [qcd, qb7, qc1 (by rw [hm]; decide)]; rfl
theorem qc4 (v : Nat) : (qc0 v).length = 64 := ql3 (by rw [qb7]; rfl)
theorem qrq (v : Nat) (w : World) (hv : v < 4294967296) : Calls prog 138 #[.int .i64 (v : Int)] w fun e w' => e = .returned (.agg (byC (qc0 v)).toArray) ∧ Below w.heap.size w w' := by
 have HV := hid hv; have i1 : IntKind.u64.wrap (v : Int) = (v : Int) := by rw [IntKind.wrap_u64]; omega
 have hmlen : (putL qip 5 v 4).length = 9 := by rw [qb7]; rfl
 have HML := hid hmlen; clear hmlen hv; go_enter func138, ntmps138; go_upto_region 1 with fail; generalize hw1 : World.alloc w _ = w1; have Z1 : RowB w1 w.heap.size 251 (zeros 64) := by rw [← hw1]; exact (qa2 _ _ _).trans (if_pos rfl)
 have b1 : Below w.heap.size w w1 := by rw [← hw1]; exact (Below.refl _ _).alloc (Nat.le_refl _) _
 have HZ1 := hid Z1; have HB1 := hid b1; have hl1 := qa0 Z1; clear hw1 Z1 b1; go_wp2_with fail; generalize hw2 : World.alloc w1 _ = w2; have R2 : RowB w2 w1.heap.size 5 qip := by rw [← hw2]; exact (qa2 _ _ _).trans (if_pos rfl)
 have b2 : Below w1.heap.size w1 w2 := by rw [← hw2]; exact (Below.refl _ _).alloc (Nat.le_refl _) _
 have HR2 := hid R2; have HB2 := hid (HB1.out.trans (b2.mono HB1.out.size)); have HZ2 := hid (HZ1.out.below b2 hl1); have l12 := b2.size; clear hw2 R2 b2; refine (qgp qip (some ⟨w1.heap.size, 0, none⟩) 9 5 4 v w2 HR2.out.arr0 (by omega) (by omega) (by decide) (by decide) (by have := HV.out; omega) (by have := HV.out; omega)).mono ?_; rintro e w3 ⟨A3, c3, rfl, hown, b3⟩; rw [HML.out]; have HO3 := hid hown; have HB3 := hid (HB2.out.trans (b3.mono HB2.out.size)); have HZ3 := hid (HZ2.out.below b3 (Nat.lt_of_lt_of_le hl1 l12)); clear hown b3 i1; go_wp2_with fail; have T4 := qiq (putL qip 5 v 4) A3 c3 w3 (HO3.out.arr qbn) HML.out HO3.out.len HO3.out.max; rw [HML.out] at T4; refine T4.mono ?_; rintro e w4 ⟨rfl, b4⟩; have HB4 := hid (HB3.out.trans (b4.mono HB3.out.size)); have hz3 := qa0 HZ3.out; have HZ4 := hid (HZ3.out.below b4 hz3); have HSZ := hid (show (byC (qc0 v)).length = 64 by rw [qad, qc4]); have HTH : Hid (w4.there w.heap.size 0 (byC (qc0 v)).toArray.size) := hid (by
  rw [show (byC (qc0 v)).toArray.size = 64 from HSZ.out]
  exact HZ4.out.there)
 have HIA : Hid ((prog.info? 251).map (·.size) = some (byC (qc0 v)).toArray.size) := hid (by rw [show (byC (qc0 v)).toArray.size = 64 from HSZ.out]; exact qf1); clear b4 T4; rw [show byC (qcd (putL qip 5 v 4)) = byC (qc0 v) from rfl]; go_wp2_with (refine wpList_store_mid rfl 251 (.tmp 2) (.tmp 13) rfl w.heap.size 0 (byC (qc0 v)).toArray (by first | rfl | simp [Act.eval]) (by first | rfl | simp [Act.eval]) HTH.out HIA.out (all_oneCell_toArray qcw) ?_); refine bodyPost_ret (v := .agg (byC (qc0 v)).toArray) ?_ rfl ⟨rfl, ?_⟩
 · exact qah results138 _ _ w.heap.size _ _ rfl (World.rangeAt_setCells_same w4 w.heap.size 0 (byC (qc0 v)) HTH.out) underlying251 rfl HIA.out
 · exact qae (Nat.le_refl _) _ _ _ HB4.out
def qja : List UInt8 := [3, 0, 0, 0, 0, 0, 0, 0, 0]
def qc3 (v : Nat) : List UInt8 := qcd (putL qja 1 v 8)
theorem qc7 (v : Nat) : (qc3 v).length = 64 := ql3 (by rw [qb7]; rfl)
theorem qtl (v : Nat) (w : World) (hv : v < 18446744073709551616) : Calls prog 122 #[.int .u64 (v : Int)] w fun e w' => e = .returned (.agg (byC (qc3 v)).toArray) ∧ Below w.heap.size w w' := by
 have HV := hid hv; have hmlen : (putL qja 1 v 8).length = 9 := by rw [qb7]; rfl
 have HML := hid hmlen; clear hmlen hv; go_enter func122, ntmps122; go_upto_region 1 with fail; generalize hw1 : World.alloc w _ = w1; have Z1 : RowB w1 w.heap.size 251 (zeros 64) := by rw [← hw1]; exact (qa2 _ _ _).trans (if_pos rfl)
 have b1 : Below w.heap.size w w1 := by rw [← hw1]; exact (Below.refl _ _).alloc (Nat.le_refl _) _
 have HZ1 := hid Z1; have HB1 := hid b1; have hl1 := qa0 Z1; clear hw1 Z1 b1; go_wp2_with fail; generalize hw2 : World.alloc w1 _ = w2; have R2 : RowB w2 w1.heap.size 5 qja := by rw [← hw2]; exact (qa2 _ _ _).trans (if_pos rfl)
 have b2 : Below w1.heap.size w1 w2 := by rw [← hw2]; exact (Below.refl _ _).alloc (Nat.le_refl _) _
 have HR2 := hid R2; have HB2 := hid (HB1.out.trans (b2.mono HB1.out.size)); have HZ2 := hid (HZ1.out.below b2 hl1); have l12 := b2.size; clear hw2 R2 b2; refine (qgp qja (some ⟨w1.heap.size, 0, none⟩) 9 1 8 v w2 HR2.out.arr0 (by omega) (by omega) (by decide) (by decide) (by have := HV.out; omega) (by have := HV.out; omega)).mono ?_; rintro e w3 ⟨A3, c3, rfl, hown, b3⟩; rw [HML.out]; have HO3 := hid hown; have HB3 := hid (HB2.out.trans (b3.mono HB2.out.size)); have HZ3 := hid (HZ2.out.below b3 (Nat.lt_of_lt_of_le hl1 l12)); clear hown b3; go_wp2_with fail; have T4 := qiq (putL qja 1 v 8) A3 c3 w3 (HO3.out.arr qbn) HML.out HO3.out.len HO3.out.max; rw [HML.out] at T4; refine T4.mono ?_; rintro e w4 ⟨rfl, b4⟩; have HB4 := hid (HB3.out.trans (b4.mono HB3.out.size)); have hz3 := qa0 HZ3.out; have HZ4 := hid (HZ3.out.below b4 hz3); have HSZ := hid (show (byC (qc3 v)).length = 64 by rw [qad, qc7]); have HTH : Hid (w4.there w.heap.size 0 (byC (qc3 v)).toArray.size) := hid (by
  rw [show (byC (qc3 v)).toArray.size = 64 from HSZ.out]
  exact HZ4.out.there)
 have HIA : Hid ((prog.info? 251).map (·.size) = some (byC (qc3 v)).toArray.size) := hid (by rw [show (byC (qc3 v)).toArray.size = 64 from HSZ.out]; exact qf1); clear b4 T4; rw [show byC (qcd (putL qja 1 v 8)) = byC (qc3 v) from rfl]; go_wp2_with (refine wpList_store_mid rfl 251 (.tmp 2) (.tmp 12) rfl w.heap.size 0 (byC (qc3 v)).toArray (by first | rfl | simp [Act.eval]) (by first | rfl | simp [Act.eval]) HTH.out HIA.out (all_oneCell_toArray qcw) ?_); refine bodyPost_ret (v := .agg (byC (qc3 v)).toArray) ?_ rfl ⟨rfl, ?_⟩
 · exact qah results122 _ _ w.heap.size _ _ rfl (World.rangeAt_setCells_same w4 w.heap.size 0 (byC (qc3 v)) HTH.out) underlying251 rfl HIA.out
 · exact qae (Nat.le_refl _) _ _ _ HB4.out
end
section
open Go.RowKit
theorem RowB.set {w : World} {b : Nat} {t : TypeId} {l0 l : List UInt8} (h : RowB w b t l0) (hl : l.length = l0.length) : RowB (w.setCells b 0 (byC l)) b t l := by
 obtain ⟨cur, h1, h2, -, -, h5⟩ := qax (byC l) 0 w _ h (by rw [qad, List.size_toArray, qad]; omega); have e : cur = (byC l).toArray := by
  apply Array.ext_getElem?; intro i; by_cases hi : i < l.length
  · have hi' : i < (byC l).length := by rw [qad]; exact hi
    have := h5 i (byC l)[i] (List.getElem?_eq_getElem hi'); rw [Nat.zero_add] at this; rw [this, List.getElem?_toArray, List.getElem?_eq_getElem hi']
  · rw [Array.getElem?_eq_none (by rw [h2, List.size_toArray, qad]; omega), Array.getElem?_eq_none (by rw [List.size_toArray, qad]; omega)]
 unfold RowB; rw [h1, e]
theorem qb2 (b : Nat) : ∀ (vs : List Value) (o : Nat) (w : World) (k : Nat), k ≠ b → (w.setCells b o vs).heap[k]? = w.heap[k]?
 | [], _, _, _, _ => rfl
 | v :: r, o, w, k, h => by rw [World.setCells, qb2 b r (o + 1) _ k h, Below.heap_setCell _ _ _ _ h]
def qmh (l : List UInt8) (w : World) (v : Value) (w' : World) : Prop := ∃ b, v = .slice (some ⟨b, 0, none⟩) 64 64 ∧ RowB w' b 251 l ∧ w.heap.size ≤ b ∧ Below w.heap.size w w'
theorem qqu (v : Nat) (w : World) (hv : v < 18446744073709551616) : Calls prog 106 #[.int .u64 (v : Int)] w fun e w' => ∃ x, e = .returned x ∧ qmh (qc3 v) w x w' := by
 go_enter func106, ntmps106; go_wp2_with fail; refine (qtl v w hv).mono ?_; rintro e w1 ⟨rfl, b1⟩; have HB1 := hid b1; have hs1 := b1.size; have HSZ := hid (show (byC (qc3 v)).toArray.size = 64 by rw [List.size_toArray, qad, qc7]); have HIA : Hid ((prog.info? 251).map (·.size) = some (byC (qc3 v)).toArray.size) := hid (by rw [HSZ.out]; exact qf1); clear b1; go_upto_region 2 with (refine wpList_store_mid rfl 251 (.tmp 3) (.tmp 5) rfl w1.heap.size 0 (byC (qc3 v)).toArray (by first | rfl | simp [Act.eval]) (by first | rfl | simp [Act.eval]) (by rw [HSZ.out]; exact RowB.there (t := 251) ((qa2 _ _ _).trans (if_pos rfl))) HIA.out (all_oneCell_toArray qcw) ?_); generalize hw2 : World.setCells _ _ _ _ = w2; have R2 : RowB w2 w1.heap.size 251 (qc3 v) := by rw [← hw2]; exact RowB.set (l0 := zeros 64) ((qa2 _ _ _).trans (if_pos rfl)) (by rw [qc7]; rfl)
 have b2 : Below w1.heap.size w1 w2 := by rw [← hw2]; exact qae (Nat.le_refl _) _ _ _ ((Below.refl _ _).alloc (Nat.le_refl _) _)
 have HR2 := hid R2; have HB2 := hid b2; clear hw2 R2 b2 HIA HSZ; simp only [Act.put]; go_wp2_with fail; go_ret; exact ⟨_, rfl, w1.heap.size, rfl, HR2.out, hs1, HB1.out.trans (HB2.out.mono hs1)⟩
theorem qpu (v : Nat) (w : World) (h1 : 10 ≤ v) (h2 : v ≤ 258) : Calls prog 104 #[.int .i64 (v : Int)] w fun e w' => ∃ x, e = .returned (.tuple #[x, .int .i64 0]) ∧ qmh (qc0 v) w x w' := by
 have g1 : ¬ (v : Int) < 10 := by omega
 have g2 : ¬ (258 : Int) < (v : Int) := by omega
 go_enter func104, ntmps104; go_wp2_with fail; refine (qrq v w (by omega)).mono ?_; rintro e w1 ⟨rfl, b1⟩; have HB1 := hid b1; have hs1 := b1.size; have HSZ := hid (show (byC (qc0 v)).toArray.size = 64 by rw [List.size_toArray, qad, qc4]); have HIA : Hid ((prog.info? 251).map (·.size) = some (byC (qc0 v)).toArray.size) := hid (by rw [HSZ.out]; exact qf1); clear b1 g1 g2; go_upto_region 4 with (refine wpList_store_mid rfl 251 (.tmp 4) (.tmp 12) rfl w1.heap.size 0 (byC (qc0 v)).toArray (by first | rfl | simp [Act.eval]) (by first | rfl | simp [Act.eval]) (by rw [HSZ.out]; exact RowB.there (t := 251) ((qa2 _ _ _).trans (if_pos rfl))) HIA.out (all_oneCell_toArray qcw) ?_); generalize hw2 : World.setCells _ _ _ _ = w2; have R2 : RowB w2 w1.heap.size 251 (qc0 v) := by rw [← hw2]; exact RowB.set (l0 := zeros 64) ((qa2 _ _ _).trans (if_pos rfl)) (by rw [qc4]; rfl)
 have b2 : Below w1.heap.size w1 w2 := by rw [← hw2]; exact qae (Nat.le_refl _) _ _ _ ((Below.refl _ _).alloc (Nat.le_refl _) _)
 have HR2 := hid R2; have HB2 := hid b2; clear hw2 R2 b2 HIA HSZ; simp only [Act.put]; go_wp2_with fail; go_ret2; exact ⟨_, rfl, w1.heap.size, rfl, HR2.out, hs1, HB1.out.trans (HB2.out.mono hs1)⟩
theorem ql1 (n : Nat) (w : World) (h1 : 10 ≤ n) (h2 : n ≤ 258) : Calls prog 72 #[.int .i64 (n : Int)] w fun e w' => e = .returned (.int .i64 (((n - 2) / 8 : Nat) : Int)) ∧ w' = w := by
 have g1 : ¬ (n : Int) < 10 := by omega
 have g2 : min (n : Int) 258 = n := by omega
 have g3 : IntKind.i64.wrap ((n : Int) - 2) = (n : Int) - 2 := Go.IntWalk.i64_in _ (by omega); have g4 : ((n : Int) - 2).tdiv 8 = (((n - 2) / 8 : Nat) : Int) := by rw [Int.tdiv_eq_ediv_of_nonneg (by omega)]; omega
 go_enter func72, ntmps72; go_wp2_with fail; go_ret; exact ⟨rfl, rfl⟩
end
section
open Go.RowKit
structure qab where
 now : List UInt8
 kept : List UInt8
 way : List UInt8
 sent : Bool
 hn : now.length = 64
 hk : kept.length = 64
 hw : way.length = 64
def qab.enc (x : qab) : List Value := byC x.now ++ byC x.kept ++ byC x.way ++ [.bool x.sent]
theorem qab.enc_len (x : qab) : x.enc.length = 193 := by simp [qab.enc, qad, x.hn, x.hk, x.hw]
theorem qab.e_now (x : qab) {j : Nat} (hj : j < 64) : x.enc[j]? = (byC x.now)[j]? := by
 rw [qab.enc, List.getElem?_append_left (by simp [qad, x.hn, x.hk, x.hw]; omega), List.getElem?_append_left (by simp [qad, x.hn, x.hk]; omega), List.getElem?_append_left (by simp [qad, x.hn]; omega)]
theorem qab.e_kept (x : qab) {j : Nat} (hj : j < 64) : x.enc[64 + j]? = (byC x.kept)[j]? := by
 rw [qab.enc, List.getElem?_append_left (by simp [qad, x.hn, x.hk, x.hw]; omega), List.getElem?_append_left (by simp [qad, x.hn, x.hk]; omega), List.getElem?_append_right (by simp [qad, x.hn])]; simp [qad, x.hn]
theorem qab.e_way (x : qab) {j : Nat} (hj : j < 64) : x.enc[128 + j]? = (byC x.way)[j]? := by
 rw [qab.enc, List.getElem?_append_left (by simp [qad, x.hn, x.hk, x.hw]; omega), List.getElem?_append_right (by simp [qad, x.hn, x.hk])]; simp [qad, x.hn, x.hk]
theorem qab.e_sent (x : qab) : x.enc[192]? = some (.bool x.sent) := by
 rw [qab.enc, List.getElem?_append_right (by simp [qad, x.hn, x.hk, x.hw])]; simp [qad, x.hn, x.hk, x.hw]
theorem Own.setPart {α : Type} {enc : α → List Value} {e : TypeId} {k : Nat} (hk : ∀ x, (enc x).length = k) {w : World} {lo b off c : Nat} {l : List α} (h : Own enc e k w lo (some ⟨b, off, none⟩) c l) {i : Nat} (hi : i < l.length) (x : α) (o : Nat) (vs : List Value) (ho : o + vs.length ≤ k)
 (hsame : ∀ j, j < o ∨ o + vs.length ≤ j → (enc x)[j]? = (enc l[i])[j]?) (hnew : ∀ j, j < vs.length → (enc x)[o + j]? = vs[j]?) :
 Own enc e k (w.setCells b (off + i * k + o) vs) lo (some ⟨b, off, none⟩) c (l.set i x) := by
 obtain ⟨h1, h2, h3⟩ := h; have hic : (i + 1) * k ≤ c * k := Nat.mul_le_mul_right _ (by omega); rw [Nat.succ_mul] at hic; rcases h3 with h3 | ⟨b', off', cur, hA, hlo, hh, hs, hc⟩
 · omega
 cases hA
 obtain ⟨cur', g1, g2, g3, g4, g5⟩ := qax vs (off + i * k + o) w cur hh (by omega); refine ⟨by rw [List.length_set]; exact h1, h2, .inr ⟨b, off, cur', rfl, hlo, g1, by omega, ?_⟩⟩; intro j u hu; have hlt := (List.getElem?_eq_some_iff.1 hu).1; rw [qao hk, List.length_set] at hlt; have hk0 : 0 < k := by
  rcases Nat.eq_zero_or_pos k with h0 | h0
  · subst h0; omega
  · exact h0
 obtain ⟨q, r, rfl, hq, hr⟩ : ∃ q r, j = q * k + r ∧ q < l.length ∧ r < k := ⟨j / k, j % k, by rw [Nat.mul_comm]; exact (Nat.div_add_mod j k).symm, (Nat.div_lt_iff_lt_mul hk0).2 hlt, Nat.mod_lt _ hk0⟩; rw [qb0 hk _ q (by rw [List.length_set]; exact hq) r hr, List.getElem_set] at hu; have hold := fun u' => hc (q * k + r) u'
 rw [qb0 hk l q hq r hr] at hold; by_cases hqi : i = q
 · subst hqi
   rw [if_pos rfl] at hu; by_cases h6 : r < o ∨ o + vs.length ≤ r
   · rw [hsame r h6] at hu
     rcases h6 with h6 | h6
     · rw [g3 _ (by omega)]; exact hold u hu
     · rw [g4 _ (by omega)]; exact hold u hu
   · obtain ⟨s, rfl⟩ : ∃ s, r = o + s := ⟨r - o, by omega⟩
     rw [hnew s (by omega)] at hu; have := g5 s u hu; rwa [show off + (i * k + (o + s)) = off + i * k + o + s by omega]
 · rw [if_neg hqi] at hu
   by_cases hlq : q < i
   · have : (q + 1) * k ≤ i * k := Nat.mul_le_mul_right _ (by omega)
     rw [Nat.succ_mul] at this; rw [g3 _ (by omega)]; exact hold u hu
   · have : (i + 1) * k ≤ q * k := Nat.mul_le_mul_right _ (by omega)
     rw [Nat.succ_mul] at this; rw [g4 _ (by omega)]; exact hold u hu
theorem Own.part {α : Type} {enc : α → List Value} {e : TypeId} {k : Nat} (hk : ∀ x, (enc x).length = k) {w : World} {lo b off c : Nat} {l : List α} (h : Own enc e k w lo (some ⟨b, off, none⟩) c l) {i : Nat} (hi : i < l.length) {o : Nat} {vs : List Value} (ho : o + vs.length ≤ k) (hv : ∀ j, j < vs.length → (enc l[i])[o + j]? = vs[j]?) :
 w.rangeAt b (off + i * k + o) vs ∧ w.there b (off + i * k + o) vs.length ∧ b < w.heap.size := by
 obtain ⟨h1, h2, h3⟩ := h; have hic : (i + 1) * k ≤ c * k := Nat.mul_le_mul_right _ (by omega); rw [Nat.succ_mul] at hic; rcases h3 with h3 | ⟨b', off', cur, hA, hlo, hh, hs, hc⟩
 · omega
 cases hA
 have hr : w.rangeAt b (off + i * k + o) vs := fun j v hj => by
  have hjl : j < vs.length := (List.getElem?_eq_some_iff.1 hj).1; have h5 := hc (i * k + (o + j)) v (by rw [qb0 hk l i hi (o + j) (by omega), hv j hjl]; exact hj); rw [cell_of_row w b _ _ _ _ hh, ← h5]; congr 1; omega
 refine ⟨hr, fun j hj => ⟨hr.isSome j hj, frozen_of_row w b _ _ _ hh⟩, qa0 hh⟩
theorem qgm {ops : Array Oper} {rest : List Oper} {o : Oper} {a : Act} {Q : Exit → Act → World → Prop} (w : World) (hgd : o.guard = none) (d s : Operand)
 (ho : o.op = .call { callee := .builtin .copy, args := #[d, s], argTypes := #[86, 86] }) {b off dLen dCap : Nat} (hd : a.eval d = .slice (some ⟨b, off, none⟩) dLen dCap) {A : Option Addr} {sCap : Nat} {m : List UInt8} (hs : a.eval s = .slice A m.length sCap)
 {B : Nat} (arr : Arr byE 1 w B A m) (hm : m ≠ []) (hfit : m.length ≤ dLen) (ht : w.there b off m.length) (h : wpList prog ops Q rest (a.put o.dst (.int .i64 (m.length : Nat))) (w.setCells b off (byC m))) :
 wpList prog ops Q (o :: rest) a w := by
 rcases arr with h0 | ⟨sb, so, rfl, -, hc⟩
 · exact absurd h0 hm
 have hsrc : ∀ j v, (byC m)[j]? = some v → w.cell? ((⟨sb, so, none⟩ : Addr).add j) = some v := fun j v hv => by
  have hj : j < m.length := by have := (List.getElem?_eq_some_iff.1 hv).1; rwa [qad] at this
  have h1 := hc j hj 0 (.int .u8 (m[j].toNat : Int)) rfl; rw [byC, List.getElem?_map, List.getElem?_eq_getElem hj] at hv; rw [Addr.add_mid, ← hv]; simpa using h1
 have hn : (byC m).length = Nat.min m.length dLen := by rw [qad]; exact (Nat.min_eq_left hfit).symm
 have hr := run_copy_cells (P := prog) w 86 86 o.type 5 b off dLen dCap ⟨sb, so, none⟩ m.length sCap (byC m) underlying86 (by
  have := qcu
  cases hq : prog.info? 5 with
  | none => rw [hq] at this; cases this
  | some i => rw [hq] at this; simp at this; simp [this]) hn hsrc (fun j hj => (ht j (by rwa [qad] at hj)).1) (fun j hj => (ht j (by rwa [qad] at hj)).2) qcw
 refine qbp w hgd d s 86 86 ho _ _ hd hs hr ?_; rw [show goInt (byC m).length = Value.int .i64 (m.length : Nat) by rw [qad]; rfl]; exact h
structure Old2 (lo p q : Nat) (w w' : World) : Prop where
 below : Below lo w w'
 keep : ∀ b, b < w.heap.size → b ≠ p → b ≠ q → w'.heap[b]? = w.heap[b]?
theorem Old2.refl (lo p q : Nat) (w : World) : Old2 lo p q w w := ⟨Below.refl _ _, fun _ _ _ _ => rfl⟩
theorem Old2.of_below {lo p q : Nat} {w w' : World} (h : Below w.heap.size w w') (hlo : lo ≤ w.heap.size) : Old2 lo p q w w' := ⟨h.mono hlo, fun b hb _ _ => h.block b hb⟩
theorem Old2.trans {lo p q : Nat} {a b c : World} (h : Old2 lo p q a b) (k : Old2 lo p q b c) : Old2 lo p q a c := ⟨h.below.trans k.below, fun i hi h1 h2 => (k.keep i (Nat.lt_of_lt_of_le hi h.below.size) h1 h2).trans (h.keep i hi h1 h2)⟩
theorem Old2.more {lo p q : Nat} {a b c : World} (h : Old2 lo p q a b) (k : Below b.heap.size b c) (hlo : lo ≤ b.heap.size) : Old2 lo p q a c := h.trans (Old2.of_below k hlo)
theorem Old2.setP {lo p q : Nat} {a w : World} (h : Old2 lo p q a w) (hp : lo ≤ p) (o : Nat) (u : Value) : Old2 lo p q a (w.setCell ⟨p, o, none⟩ u) := ⟨h.below.setCell hp u, fun b hb hne hnq => (Below.heap_setCell _ _ _ _ hne).trans (h.keep b hb hne hnq)⟩
theorem Old2.setsQ {lo p q : Nat} {a w : World} (h : Old2 lo p q a w) (hq : lo ≤ q) (o : Nat) (vs : List Value) : Old2 lo p q a (w.setCells q o vs) := ⟨qae hq _ _ _ h.below, fun b hb hne hnq => (qb2 q vs o w b hnq).trans (h.keep b hb hne hnq)⟩
theorem Own.of_heap {α : Type} {enc : α → List Value} {e : TypeId} {k : Nat} {w w' : World} {lo b off c : Nat} {l : List α} (h : Own enc e k w lo (some ⟨b, off, none⟩) c l) (hh : w'.heap[b]? = w.heap[b]?) : Own enc e k w' lo (some ⟨b, off, none⟩) c l := by
 obtain ⟨h1, h2, h3⟩ := h; refine ⟨h1, h2, ?_⟩; rcases h3 with h3 | ⟨b', off', cur, hA, hlo, hb, hs, hc⟩
 · exact .inl h3
 · cases hA
   exact .inr ⟨b, off, cur, rfl, hlo, hh.trans hb, hs, hc⟩
def qab.over (x : qab) (o : Nat) (m : List UInt8) : qab := if h : o + m.length ≤ 64 then { x with now := qbj x.now o m, hn := by rw [qc1 (by rw [x.hn]; exact h)]; exact x.hn } else x
def qab.flush (x : qab) : qab := { x with way := x.now, sent := true, hw := x.hn }
def qab.fence (x : qab) : qab := if x.sent then { x with kept := x.way, sent := false, hk := x.hw } else x
def qab.back (x : qab) : qab := { x with kept := x.now, sent := false, hk := x.hn }
theorem qab.over_same (x : qab) {o : Nat} {m : List UInt8} (h : o + m.length ≤ 64) : ∀ j, j < o ∨ o + (byC m).length ≤ j → (x.over o m).enc[j]? = x.enc[j]? := fun j hj => by
 rw [qad] at hj
 unfold qab.over
 rw [dif_pos h]
 by_cases h64 : j < 64
 · rw [qab.e_now _ h64, qab.e_now _ h64]
   show (byC (qbj x.now o m))[j]? = _
   rw [byC, byC, List.getElem?_map, List.getElem?_map, qbj]
   congr 1
   rcases hj with hj | hj
   · rw [List.append_assoc, List.getElem?_append_left (by rw [List.length_take, x.hn]; omega), List.getElem?_take, if_pos hj]
   · rw [List.getElem?_append_right (by rw [List.length_append, List.length_take, x.hn]; omega), List.getElem?_drop, List.length_append, List.length_take, x.hn]
     congr 1
     omega
 · have e : ∀ z : qab, z.enc[j]? = (byC z.kept ++ (byC z.way ++ [.bool z.sent]))[j - 64]? := fun z => by
    rw [qab.enc, List.append_assoc, List.append_assoc, List.getElem?_append_right (by rw [qad, z.hn]; omega), qad, z.hn]
   rw [e, e]
theorem qab.over_new (x : qab) {o : Nat} {m : List UInt8} (h : o + m.length ≤ 64) : ∀ j, j < (byC m).length → (x.over o m).enc[o + j]? = (byC m)[j]? := fun j hj => by
 rw [qad] at hj
 unfold qab.over
 rw [dif_pos h, qab.e_now _ (by omega)]
 show (byC (qbj x.now o m))[o + j]? = _
 rw [byC, byC, List.getElem?_map, List.getElem?_map, qbj, List.append_assoc, List.getElem?_append_right (by rw [List.length_take, x.hn]; omega), List.length_take, x.hn, show o + j - min o 64 = j by omega, List.getElem?_append_left hj]
end
end Go.Proofs.YtecikkjbnkhhkaaGreat
