/- A part of the walk. -/
import Derived.Test.YtecikkjbnkhhkaaGreatP14
namespace Go.Proofs.YtecikkjbnkhhkaaGreat
open _root_.Go.Proofs.Tryz
set_option maxHeartbeats 4000000
set_option maxRecDepth 100000
section
open Go.RowKit
def quk (l : List UInt8) (w : World) (e : Ending) (w' : World) : Prop := ∃ A c, e = .returned (.tuple #[.slice A 64 c, .int .i64 0]) ∧ Own byE 5 1 w' w.heap.size A c l ∧ Below w.heap.size w w'
theorem Own.lineArr {w : World} {lo dc n : Nat} {D : List qab} (h : Own qab.enc 247 193 w lo (some ⟨dc, 0, none⟩) n D) {i : Nat} (hi : i < D.length) : Arr byE 1 w w.heap.size (some ⟨dc, i * 193, none⟩) D[i].now := by
 have hp := h.part qab.enc_len hi (o := 0) (vs := byC D[i].now) (by rw [qad, D[i].hn]; omega) (fun j hj => by rw [qad, D[i].hn] at hj; rw [Nat.zero_add, qab.e_now _ hj]); refine .inr ⟨dc, i * 193, rfl, hp.2.2, fun q hq j u hu => ?_⟩; have hj : j = 0 := by
  have := (List.getElem?_eq_some_iff.1 hu).1; rw [qbn] at this; omega
 subst hj; have := hp.1 q (.int .u8 (D[i].now[q].toNat : Int)) (by rw [byC, List.getElem?_map, List.getElem?_eq_getElem hq]; rfl); rw [Nat.mul_one, Nat.add_zero]; rw [show 0 + i * 193 + 0 + q = i * 193 + q by omega] at this; rw [this]; simpa [byE] using hu
theorem qow (w : World) (lo p dc : Nat) (D : List qab) (h : qbb w lo p dc D) (i : Nat) (hi : i < D.length) : Calls prog 87 #[.pointer (some ⟨p, 0, none⟩), .int .i64 (i : Int)] w (quk D[i].now w) := by
 obtain ⟨k0, k1, k2, k3, k4, hb⟩ := h.box; have hlen := h.len; have hp := qa0 hb; have p0 := cell_of_row w p 0 _ _ _ hb; have hdc := (h.rows.lineArr hi); have T0 := hid (qez w lo p dc D h i 0 0 hi (by omega)); have T1 := qhy D[i].now (some ⟨dc, i * 193, none⟩) 64 w hdc (by rw [D[i].hn]; omega); rw [D[i].hn] at T1; have HT1 := hid T1; have hii : (i : Int) < (D.length : Int) := by omega
 have hdl : dc < w.heap.size := by
  rcases h.rows.lt with h0 | ⟨b', o', hA, -, h1⟩
  · omega
  · cases hA; exact h1
 clear h hb hdc T1; go_enter func87, ntmps87; go_wp2_with fail; refine T0.out.mono ?_; rintro e w1 ⟨rfl, rfl⟩; go_wp2_with fail; refine HT1.out.mono ?_; rintro e w2 ⟨A, c, rfl, hown, hb2⟩; have HH := hid (And.intro hown hb2); have hl : D[i].now.length = 64 := D[i].hn; rw [hl]; clear hown hb2; go_wp2_with fail; go_ret2; exact ⟨A, c, rfl, HH.out.1, HH.out.2⟩
theorem qdg : (prog.info? 245).map (·.size) = some 64 := by kernel_rfl
theorem qab.flush_same (x : qab) : ∀ j, j < 128 ∨ 128 + (byC x.now ++ [Value.bool true]).length ≤ j → (x.flush).enc[j]? = x.enc[j]? := fun j hj => by
 rcases hj with hj | hj
 · have e : ∀ z : qab, z.enc[j]? = (byC z.now ++ byC z.kept)[j]? := fun z => by
    rw [qab.enc, List.append_assoc, List.getElem?_append_left (by rw [List.length_append, qad, qad, z.hn, z.hk]; omega)]
   rw [e, e]
   rfl
 · rw [List.length_append, qad, x.hn] at hj
   simp only [List.length_cons, List.length_nil] at hj
   rw [List.getElem?_eq_none (by rw [qab.enc_len]; omega), List.getElem?_eq_none (by rw [qab.enc_len]; omega)]
theorem qab.flush_new (x : qab) : ∀ j, j < (byC x.now ++ [Value.bool true]).length → (x.flush).enc[128 + j]? = (byC x.now ++ [Value.bool true])[j]? := fun j hj => by
 rw [List.length_append, qad, x.hn] at hj
 simp only [List.length_cons, List.length_nil] at hj
 rcases (by omega : j < 64 ∨ j = 64) with h | rfl
 · rw [qab.e_way _ h, List.getElem?_append_left (by rw [qad, x.hn]; exact h)]
   rfl
 · rw [qab.e_sent, List.getElem?_append_right (by rw [qad, x.hn]; omega), qad, x.hn]
   rfl
theorem qab.back_same (x : qab) : ∀ j, j < 64 ∨ 64 + (byC x.now).length ≤ j → ({ x with kept := x.now, hk := x.hn } : qab).enc[j]? = x.enc[j]? := fun j hj => by
 rw [qad, x.hn] at hj
 rcases hj with hj | hj
 · rw [qab.e_now _ hj, qab.e_now _ hj]
 · have e : ∀ z : qab, z.enc[j]? = (byC z.way ++ [.bool z.sent])[j - 128]? := fun z => by
    rw [qab.enc, List.append_assoc, List.getElem?_append_right (by rw [List.length_append, qad, qad, z.hn, z.hk]; omega), List.length_append, qad, qad, z.hn, z.hk]
   rw [e, e]
theorem qe2 (b : Nat) : ∀ (vs ws : List Value) (o : Nat) (w : World), w.setCells b o (vs ++ ws) = (w.setCells b o vs).setCells b (o + vs.length) ws
 | [], ws, o, w => rfl
 | v :: r, ws, o, w => by
  rw [List.cons_append, World.setCells, qe2 b r ws (o + 1), World.setCells, List.length_cons]
  congr 1
  omega
structure qBb (w : World) (dc i : Nat) (x : qab) : Prop where
 now : w.rangeAt dc (i * 193) (byC x.now)
 way : w.rangeAt dc (i * 193 + 128) (byC x.way)
 tkept : w.there dc (i * 193 + 64) 64
 tway : w.there dc (i * 193 + 128) 64
 sent : w.cell? ⟨dc, i * 193 + 192, none⟩ = some (.bool x.sent)
 fsent : w.frozen? ⟨dc, i * 193 + 192, none⟩ = false
 lt : dc < w.heap.size
theorem qbb.line {w : World} {lo p dc : Nat} {D : List qab} (h : qbb w lo p dc D) {i : Nat} (hi : i < D.length) : qBb w dc i D[i] := by
 have h0 := h.rows.part qab.enc_len hi (o := 0) (vs := byC D[i].now) (by rw [qad, D[i].hn]; omega) (fun j hj => by rw [qad, D[i].hn] at hj; rw [Nat.zero_add, qab.e_now _ hj]); have h1 := h.rows.part qab.enc_len hi (o := 64) (vs := byC D[i].kept) (by rw [qad, D[i].hk]; omega) (fun j hj => by rw [qad, D[i].hk] at hj; rw [qab.e_kept _ hj]); have h2 := h.rows.part qab.enc_len hi (o := 128) (vs := byC D[i].way) (by rw [qad, D[i].hw]; omega) (fun j hj => by rw [qad, D[i].hw] at hj; rw [qab.e_way _ hj]); have h3 := h.rows.part qab.enc_len hi (o := 192) (vs := [.bool D[i].sent]) (by simp) (fun j hj => by
  simp only [List.length_cons, List.length_nil] at hj
  obtain rfl : j = 0 := by omega
  rw [Nat.add_zero, qab.e_sent]; rfl)
 rw [qad, D[i].hk] at h1; rw [qad, D[i].hw] at h2; simp only [Nat.zero_add, Nat.add_zero] at h0 h1 h2 h3; refine ⟨h0.1, h2.1, h1.2.1, h2.2.1, h3.1 0 _ rfl, ?_, h0.2.2⟩; have := (h3.2.1 0 (by simp)).2; simpa using this
theorem qlw (w : World) (lo p dc : Nat) (D : List qab) (h : qbb w lo p dc D) (i : Nat) (hi : i < D.length) : Calls prog 107 #[.pointer (some ⟨p, 0, none⟩), .int .i64 (i : Int)] w (qfg lo p dc (D.set i D[i].flush) w) := by
 have H := hid h; obtain ⟨k0, k1, k2, k3, k4, hb⟩ := h.box; have hlen := h.len; have hp := qa0 hb; have p0 := cell_of_row w p 0 _ _ _ hb; have HL := hid (h.line hi); have hdl := HL.out.lt; have T0 := hid (qez w lo p dc D h i 0 0 hi (by omega)); have hii : (i : Int) < (D.length : Int) := by omega
 have hbl : (byC D[i].now).length = 64 := by rw [qad, D[i].hn]
 have HTW : Hid (w.there dc (i * 193 + 128) (byC D[i].now).toArray.size) := hid (by rw [show (byC D[i].now).toArray.size = 64 from hbl]; exact HL.out.tway); have HIA : Hid ((prog.info? 245).map (·.size) = some (byC D[i].now).toArray.size) := hid (by rw [show (byC D[i].now).toArray.size = 64 from hbl]; exact qdg); have HIL : Hid ((prog.info? 245).map (·.size) = some (byC D[i].now).length) := hid (by rw [hbl]; exact qdg); have n192 : (w.setCells dc (i * 193 + 128) (byC D[i].now)).cell? ⟨dc, i * 193 + 192, none⟩ = some (.bool D[i].sent) := by
  rw [World.cell?_setCells_out dc _ _ _ _ (fun _ _ => .inr (by rw [hbl]; show i * 193 + 128 + 64 ≤ i * 193 + 192; omega)), HL.out.sent]
 have f192 : (w.setCells dc (i * 193 + 128) (byC D[i].now)).frozen? ⟨dc, i * 193 + 192, none⟩ = false := by
  rw [World.frozen?_setCells]; exact HL.out.fsent
 have hR : Own qab.enc 247 193 ((w.setCells dc (i * 193 + 128) (byC D[i].now)).setCell ⟨dc, i * 193 + 192, none⟩ (.bool true)) lo (some ⟨dc, 0, none⟩) D.length (D.set i D[i].flush) := by
  have := h.rows.setPart qab.enc_len hi D[i].flush 128 (byC D[i].now ++ [.bool true]) (by rw [List.length_append, hbl]; simp) (qab.flush_same _) (qab.flush_new _); rwa [Nat.zero_add, qe2, hbl] at this
 have HR := hid hR; clear h hb hR hbl; go_enter func107, ntmps107; go_wp2_with fail; refine T0.out.mono ?_; rintro e w1 ⟨rfl, rfl⟩; go_upto_region 6 with (first | (refine wpList_load_mid rfl 245 (.tmp 23) rfl dc (i * 193) (by first | rfl | simp [Act.eval]) (byC D[i].now) _ HL.out.now underlying245 rfl HIL.out ?_) | (refine wpList_store_mid rfl 245 (.tmp 26) (.tmp 24) rfl dc (i * 193 + 128) (byC D[i].now).toArray (by first | rfl | simp [Act.eval]) (by first | rfl | simp [Act.eval]) HTW.out HIA.out (all_oneCell_toArray qcw) ?_)); have hD := H.out.set HR.out (by simp) ((Below.heap_setCell _ _ _ _ H.out.lo.2.2).trans (qb2 _ _ _ _ _ H.out.lo.2.2)); have hO : Old2 lo p dc w1 ((w1.setCells dc (i * 193 + 128) (byC D[i].now)).setCell ⟨dc, i * 193 + 192, none⟩ (.bool true)) := by
  have h1 := (Old2.refl lo p dc w1).setsQ H.out.lo.2.1 (i * 193 + 128) (byC D[i].now); exact ⟨h1.below.setCell H.out.lo.2.1 _, fun b hb hne hnq => (Below.heap_setCell _ _ _ _ hnq).trans (h1.keep b hb hne hnq)⟩
 clear HR HTW HIA HIL n192 f192 p0 T0; generalize World.setCell _ _ _ = w2 at *; have HD := hid hD; have HO := hid hO; obtain ⟨c9, n0, nf, hp2⟩ := hD.cnt (q := 2) (by omega); clear hD hO; go_wp2_with fail; refine (qgx p 2 c9 1 w2 n0 nf hp2).mono ?_; rintro e w3 ⟨v9, rfl, rfl⟩; go_wp2_with fail; go_ret; exact ⟨rfl, HD.out.count (by omega) v9, HO.out.setP HD.out.lo.1 _ _⟩
end
section
open Go.RowKit
theorem qab.back_new (x : qab) : ∀ j, j < (byC x.now).length → ({ x with kept := x.now, hk := x.hn } : qab).enc[64 + j]? = (byC x.now)[j]? := fun j hj => by
 rw [qad, x.hn] at hj
 rw [qab.e_kept _ hj]
theorem qab.sent_same (x : qab) (v : Bool) : ∀ j, j < 192 ∨ 192 + [Value.bool v].length ≤ j → ({ x with sent := v } : qab).enc[j]? = x.enc[j]? := fun j hj => by
 simp only [List.length_cons, List.length_nil] at hj
 rcases hj with hj | hj
 · have e : ∀ z : qab, z.enc[j]? = (byC z.now ++ byC z.kept ++ byC z.way)[j]? := fun z => by
    rw [qab.enc, List.getElem?_append_left (by rw [List.length_append, List.length_append, qad, qad, qad, z.hn, z.hk, z.hw]; exact hj)]
   rw [e, e]
 · rw [List.getElem?_eq_none (by rw [qab.enc_len]; omega), List.getElem?_eq_none (by rw [qab.enc_len]; omega)]
theorem qab.sent_new (x : qab) (v : Bool) : ∀ j, j < [Value.bool v].length → ({ x with sent := v } : qab).enc[192 + j]? = [Value.bool v][j]? := fun j hj => by
 simp only [List.length_cons, List.length_nil] at hj
 obtain rfl : j = 0 := by omega
 rw [Nat.add_zero, qab.e_sent]
 rfl
theorem qx8 (w : World) (lo p dc : Nat) (D : List qab) (h : qbb w lo p dc D) (i : Nat) (hi : i < D.length) : Calls prog 85 #[.pointer (some ⟨p, 0, none⟩), .int .i64 (i : Int)] w (qfg lo p dc (D.set i D[i].back) w) := by
 have H := hid h; obtain ⟨k0, k1, k2, k3, k4, hb⟩ := h.box; have hlen := h.len; have hp := qa0 hb; have p0 := cell_of_row w p 0 _ _ _ hb; have HL := hid (h.line hi); have hdl := HL.out.lt; have T0 := hid (qez w lo p dc D h i 0 0 hi (by omega)); have hii : (i : Int) < (D.length : Int) := by omega
 have hbl : (byC D[i].now).length = 64 := by rw [qad, D[i].hn]
 have HTW : Hid (w.there dc (i * 193 + 64) (byC D[i].now).toArray.size) := hid (by rw [show (byC D[i].now).toArray.size = 64 from hbl]; exact HL.out.tkept); have HIA : Hid ((prog.info? 245).map (·.size) = some (byC D[i].now).toArray.size) := hid (by rw [show (byC D[i].now).toArray.size = 64 from hbl]; exact qdg); have HIL : Hid ((prog.info? 245).map (·.size) = some (byC D[i].now).length) := hid (by rw [hbl]; exact qdg); have n192 : (w.setCells dc (i * 193 + 64) (byC D[i].now)).cell? ⟨dc, i * 193 + 192, none⟩ = some (.bool D[i].sent) := by
  rw [World.cell?_setCells_out dc _ _ _ _ (fun _ _ => .inr (by rw [hbl]; show i * 193 + 64 + 64 ≤ i * 193 + 192; omega)), HL.out.sent]
 have f192 : (w.setCells dc (i * 193 + 64) (byC D[i].now)).frozen? ⟨dc, i * 193 + 192, none⟩ = false := by
  rw [World.frozen?_setCells]; exact HL.out.fsent
 have hR : Own qab.enc 247 193 ((w.setCells dc (i * 193 + 64) (byC D[i].now)).setCell ⟨dc, i * 193 + 192, none⟩ (.bool false)) lo (some ⟨dc, 0, none⟩) D.length (D.set i D[i].back) := by
  have h1 := h.rows.setPart qab.enc_len hi { D[i] with kept := D[i].now, hk := D[i].hn } 64 (byC D[i].now) (by rw [hbl]; omega) (qab.back_same _) (qab.back_new _); have h2 := h1.setPart qab.enc_len (i := i) (by rw [List.length_set]; exact hi) D[i].back 192 [.bool false] (by simp) (fun j hj => by rw [List.getElem_set_self]; exact qab.sent_same { D[i] with kept := D[i].now, hk := D[i].hn } false j hj) (fun j hj => qab.sent_new { D[i] with kept := D[i].now, hk := D[i].hn } false j hj); rw [List.set_set, Nat.zero_add] at h2; exact h2
 have HR := hid hR; clear h hb hR hbl; go_enter func85, ntmps85; go_wp2_with fail; refine T0.out.mono ?_; rintro e w1 ⟨rfl, rfl⟩; go_upto_region 6 with (first | (refine wpList_load_mid rfl 245 (.tmp 23) rfl dc (i * 193) (by first | rfl | simp [Act.eval]) (byC D[i].now) _ HL.out.now underlying245 rfl HIL.out ?_) | (refine wpList_store_mid rfl 245 (.tmp 26) (.tmp 24) rfl dc (i * 193 + 64) (byC D[i].now).toArray (by first | rfl | simp [Act.eval]) (by first | rfl | simp [Act.eval]) HTW.out HIA.out (all_oneCell_toArray qcw) ?_)); have hD := H.out.set HR.out (by simp) ((Below.heap_setCell _ _ _ _ H.out.lo.2.2).trans (qb2 _ _ _ _ _ H.out.lo.2.2)); have hO : Old2 lo p dc w1 ((w1.setCells dc (i * 193 + 64) (byC D[i].now)).setCell ⟨dc, i * 193 + 192, none⟩ (.bool false)) := by
  have h1 := (Old2.refl lo p dc w1).setsQ H.out.lo.2.1 (i * 193 + 64) (byC D[i].now); exact ⟨h1.below.setCell H.out.lo.2.1 _, fun b hb hne hnq => (Below.heap_setCell _ _ _ _ hnq).trans (h1.keep b hb hne hnq)⟩
 clear HR HTW HIA HIL n192 f192 p0 T0; generalize World.setCell _ _ _ = w2 at *; have HD := hid hD; have HO := hid hO; obtain ⟨c9, n0, nf, hp2⟩ := hD.cnt (q := 4) (by omega); clear hD hO; go_wp2_with fail; refine (qgx p 4 c9 1 w2 n0 nf hp2).mono ?_; rintro e w3 ⟨v9, rfl, rfl⟩; go_wp2_with fail; go_ret; exact ⟨rfl, HD.out.count (by omega) v9, HO.out.setP HD.out.lo.1 _ _⟩
theorem qab.fence_same (x : qab) : ∀ j, j < 64 ∨ 64 + (byC x.way).length ≤ j → ({ x with kept := x.way, hk := x.hw } : qab).enc[j]? = x.enc[j]? := fun j hj => by
 rw [qad, x.hw] at hj
 rcases hj with hj | hj
 · rw [qab.e_now _ hj, qab.e_now _ hj]
 · have e : ∀ z : qab, z.enc[j]? = (byC z.way ++ [.bool z.sent])[j - 128]? := fun z => by
    rw [qab.enc, List.append_assoc, List.getElem?_append_right (by rw [List.length_append, qad, qad, z.hn, z.hk]; omega), List.length_append, qad, qad, z.hn, z.hk]
   rw [e, e]
theorem qab.fence_new (x : qab) : ∀ j, j < (byC x.way).length → ({ x with kept := x.way, hk := x.hw } : qab).enc[64 + j]? = (byC x.way)[j]? := fun j hj => by
 rw [qad, x.hw] at hj
 rw [qab.e_kept _ hj]
def fenced (D : List qab) (k : Nat) : List qab := (D.take k).map qab.fence ++ D.drop k
theorem qdi (D : List qab) (k : Nat) : (fenced D k).length = D.length := by
 simp [fenced]; omega
theorem qqj {D : List qab} {k : Nat} (hk : k < D.length) : (fenced D k)[k]'(by rw [qdi]; exact hk) = D[k] := by
 simp only [fenced]; rw [List.getElem_append_right (by rw [List.length_map, List.length_take]; omega)]; simp [Nat.min_eq_left (Nat.le_of_lt hk)]
theorem qns {D : List qab} {k : Nat} (hk : k < D.length) : (fenced D k).set k D[k].fence = fenced D (k + 1) := by
 unfold fenced; rw [List.take_succ_eq_append_getElem hk, List.map_append, List.map_cons, List.map_nil, List.set_append_right _ _ (by rw [List.length_map, List.length_take]; omega), List.length_map, List.length_take, Nat.min_eq_left (Nat.le_of_lt hk), Nat.sub_self, List.drop_eq_getElem_cons hk, List.set_cons_zero, List.append_assoc]; rfl
theorem qt9 {x : qab} (h : x.sent = false) : x.fence = x := by unfold qab.fence; rw [if_neg (by rw [h]; decide)]
theorem qwo {x : qab} (h : x.sent = true) : x.fence = { x with kept := x.way, sent := false, hk := x.hw } := by unfold qab.fence; rw [if_pos h]
theorem qta (w : World) (lo p dc : Nat) (D : List qab) (h : qbb w lo p dc D) : Calls prog 108 #[.pointer (some ⟨p, 0, none⟩)] w (qfg lo p dc (D.map qab.fence) w) := by
 have H := hid h; obtain ⟨k0, k1, k2, k3, k4, hb⟩ := h.box; have hlen := h.len; have hp := qa0 hb; have p0 := cell_of_row w p 0 _ _ _ hb; clear h hb; go_enter func108, ntmps108; go_wp2_with fail; clear p0; go_loopw [3, 4, 12] (fun _ _ v12 wr => ∃ k : Nat, k ≤ D.length ∧ v12 = .int .i64 k ∧ qbb wr lo p dc (fenced D k) ∧ Old2 lo p dc w wr) (fun _ _ v12 _ => D.length - (intOf v12).toNat)
 case atStart => exact ⟨0, Nat.zero_le _, rfl, by simpa [fenced] using H.out, Old2.refl _ _ _ _⟩
 case round =>
  obtain ⟨k, hk, rfl, hD, hO⟩ := hrel; have HD := hid hD; have HO := hid hO; by_cases hlt : k < D.length
  · have hkl : k < (fenced D k).length := by rw [qdi]; exact hlt
    have hli := hD.line hkl; have HR0 := hid (show ∀ x : qab, x = (fenced D k)[k] → _ from fun x hx => hD.rows.setPart qab.enc_len hkl { x with kept := x.way, hk := x.hw } 64 (byC x.way) (by rw [qad, x.hw]; omega) (by rw [← hx]; exact qab.fence_same x) (qab.fence_new x)); obtain ⟨j0, j1, j2, j3, j4, hb⟩ := hD.box; have hp2 := qa0 hb; have q0 := cell_of_row wr p 0 _ _ _ hb; rw [qdi] at q0; have hlti : (k : Int) < (D.length : Int) := by omega
    have hx : D[k] = (fenced D k)[k] := (qqj hlt).symm; rw [← hx] at hli; have HSUC := hid (qns hlt); have HX := hid hx; have s0 := hli.sent; have hdl := hli.lt; have HLI := hid hli; clear hD hO hb hli hx; cases hs : D[k].sent with
    | false =>
     rw [hs] at s0; have HF := hid (qt9 hs); go_wp2_with fail; refine ⟨⟨k + 1, by omega, by go_num, ?_, HO.out⟩, by simp [intOf]; omega⟩; rw [← HSUC.out, HF.out, HX.out, List.set_getElem_self]; exact HD.out
    | true =>
     rw [hs] at s0; have HSN := hid hs; have hbl : (byC D[k].way).length = 64 := by rw [qad, D[k].hw]
     have HTW : Hid (wr.there dc (k * 193 + 64) (byC D[k].way).toArray.size) := hid (by rw [show (byC D[k].way).toArray.size = 64 from hbl]; exact HLI.out.tkept); have HIA : Hid ((prog.info? 245).map (·.size) = some (byC D[k].way).toArray.size) := hid (by rw [show (byC D[k].way).toArray.size = 64 from hbl]; exact qdg); have HIL : Hid ((prog.info? 245).map (·.size) = some (byC D[k].way).length) := hid (by rw [hbl]; exact qdg); have n192 : (wr.setCells dc (k * 193 + 64) (byC D[k].way)).cell? ⟨dc, k * 193 + 192, none⟩ = some (.bool D[k].sent) := by
      rw [World.cell?_setCells_out dc _ _ _ _ (fun _ _ => .inr (by rw [hbl]; show k * 193 + 64 + 64 ≤ k * 193 + 192; omega)), HLI.out.sent]
     have f192 : (wr.setCells dc (k * 193 + 64) (byC D[k].way)).frozen? ⟨dc, k * 193 + 192, none⟩ = false := by
      rw [World.frozen?_setCells]; exact HLI.out.fsent
     have hR : Own qab.enc 247 193 ((wr.setCells dc (k * 193 + 64) (byC D[k].way)).setCell ⟨dc, k * 193 + 192, none⟩ (.bool false)) lo (some ⟨dc, 0, none⟩) (fenced D k).length (fenced D (k + 1)) := by
      have h1 := HD.out.rows.setPart qab.enc_len hkl { D[k] with kept := D[k].way, hk := D[k].hw } 64 (byC D[k].way) (by rw [hbl]; omega) (by rw [← HX.out]; exact qab.fence_same _) (qab.fence_new _); have h2 := h1.setPart qab.enc_len (i := k) (by rw [List.length_set]; exact hkl) { D[k] with kept := D[k].way, sent := false, hk := D[k].hw } 192 [.bool false] (by simp) (fun j hj => by rw [List.getElem_set_self]; exact qab.sent_same { D[k] with kept := D[k].way, hk := D[k].hw } false j hj) (fun j hj => qab.sent_new { D[k] with kept := D[k].way, hk := D[k].hw } false j hj); rw [List.set_set, Nat.zero_add, ← qwo hs, HSUC.out] at h2; exact h2
     have hD2 := HD.out.set hR (by rw [qdi, qdi]) ((Below.heap_setCell _ _ _ _ HD.out.lo.2.2).trans (qb2 _ _ _ _ _ HD.out.lo.2.2)); have hO2 : Old2 lo p dc w ((wr.setCells dc (k * 193 + 64) (byC D[k].way)).setCell ⟨dc, k * 193 + 192, none⟩ (.bool false)) := by
      have h1 := HO.out.setsQ HD.out.lo.2.1 (k * 193 + 64) (byC D[k].way); exact ⟨h1.below.setCell HD.out.lo.2.1 _, fun b hb hne hnq => (Below.heap_setCell _ _ _ _ hnq).trans (h1.keep b hb hne hnq)⟩
     have HD2 := hid hD2; have HO2 := hid hO2; rw [hs] at n192; clear hbl hR hD2 hO2 hs; go_wp2_with (first | (refine wpList_load_mid rfl 245 (.tmp 29) rfl dc (k * 193 + 128) (by first | rfl | simp [Act.eval]) (byC D[k].way) _ HLI.out.way underlying245 rfl HIL.out ?_) | (refine wpList_store_mid rfl 245 (.tmp 32) (.tmp 30) rfl dc (k * 193 + 64) (byC D[k].way).toArray (by first | rfl | simp [Act.eval]) (by first | rfl | simp [Act.eval]) HTW.out HIA.out (all_oneCell_toArray qcw) ?_)); exact ⟨⟨k + 1, by omega, by go_num, HD2.out, HO2.out⟩, by simp [intOf]; omega⟩
  · obtain rfl : k = D.length := by omega
    have hDE : fenced D D.length = D.map qab.fence := by simp [fenced]
    rw [hDE] at hD; have HD3 := hid hD; obtain ⟨c9, n0, nf, hp2⟩ := hD.cnt (q := 3) (by omega); clear hD hO HD hDE; go_wp2_with fail; refine (qgx p 3 c9 1 wr n0 nf hp2).mono ?_; rintro e w3 ⟨v9, rfl, rfl⟩; go_wp2_with fail; go_ret; exact ⟨rfl, HD3.out.count (by omega) v9, HO.out.setP HD3.out.lo.1 _ _⟩
end
end Go.Proofs.YtecikkjbnkhhkaaGreat
