/- A part of the walk. -/
import Derived.Test.YtecikkjbnkhhkaaGreatP10
namespace Go.Proofs.YtecikkjbnkhhkaaGreat
open _root_.Go.Proofs.Tryz
set_option maxHeartbeats 4000000
set_option maxRecDepth 100000
section
open Go.RowKit
theorem qka {a b c : World} {row : Option Nat} (h : a.grownBy b row) (k : b.grownBy c row) : a.grownBy c row :=
 ⟨k.os.trans h.os, k.tape.trans h.tape, k.output.trans h.output, Nat.le_trans h.size k.size, fun i hi hn => (k.block i (Nat.lt_of_lt_of_le hi h.size) hn).trans (h.block i hi hn)⟩
def qd1 (lo : Nat) (A : Option Addr) (c : Nat) (l : List qa3) (i : Nat) (x : qa3) (w : World) (e : Ending) (w' : World) : Prop :=
 ∃ A' c', e = .returned (.slice A' (l.length + 1) c') ∧ Own qa3.enc 85 5 w' lo A' c' (ins l i x) ∧ w.grownBy w' (qa8 A c) ∧ (A' = A ∧ c' = c ∨ ∃ g, A' = some ⟨g, 0, none⟩ ∧ w.heap.size ≤ g)
theorem qni (l : List qa3) (A : Option Addr) (c lo vb : Nat) (x : qa3) (w : World) (own : Own qa3.enc 85 5 w lo A c l) (hv : w.heap[vb]? = some (.cells x.enc.toArray 85 (0, 0))) (hlo : lo ≤ w.heap.size) (hl : l.length ≤ 100000) :
 Calls prog 327 #[.slice A l.length c, .int .i64 l.length, .slice (some ⟨vb, 0, none⟩) 1 1] w (qd1 lo A c l l.length x w) := by
 have harr := hid (qdu hv); have hc := own.len; have hm := own.max; have H := hid own; clear own hv; by_cases hcl : c = l.length
 · subst hcl
   go_enter func327, ntmps327; go_wp2_with (at_builtin; refine qdv (l := l) (m := [x]) _ rfl (.tmp 23) (.tmp 24) rfl rfl H.out 1 rfl harr.out (by simp; omega) hlo ?_; intro A' c' w' hown hgr hloc); go_ret; exact ⟨A', c', rfl, by simpa [ins] using hown, hgr, hloc⟩
 · go_enter func327, ntmps327
   go_wp2_with (at_builtin; refine qdv (l := l) (m := [x]) _ rfl (.tmp 23) (.tmp 24) rfl rfl H.out 1 rfl harr.out (by simp; omega) hlo ?_; intro A' c' w' hown hgr hloc); go_ret; exact ⟨A', c', rfl, by simpa [ins] using hown, hgr, hloc⟩
theorem qk8 (l : List qa3) (b off c lo vb i : Nat) (x : qa3) (w : World) (own : Own qa3.enc 85 5 w lo (some ⟨b, off, none⟩) c l) (hv : w.heap[vb]? = some (.cells x.enc.toArray 85 (0, 0))) (hl : l.length ≤ 100000)
 (hi : i < l.length) (hroom : l.length + 1 ≤ c) (hne : vb ≠ b) :
 Calls prog 327 #[.slice (some ⟨b, off, none⟩) l.length c, .int .i64 i, .slice (some ⟨vb, 0, none⟩) 1 1] w (qd1 lo (some ⟨b, off, none⟩) c l i x w) := by
 obtain ⟨i0, hi0, hz0, hz1, hz2⟩ := info_parts qct; have hmax := own.max; obtain ⟨b', off', cur, hA, hlob, hh, hs, hcell⟩ : ∃ b' off' cur, (some (⟨b, off, none⟩ : Addr)) = some ⟨b', off', none⟩ ∧ lo ≤ b' ∧ w.heap[b']? = some (.cells cur 85 (0, 0)) ∧ off' + c * 5 ≤ cur.size ∧ ∀ j (u : Value), (l.flatMap qa3.enc)[j]? = some u → cur[off' + j]? = some u := by
  rcases own.2.2 with h0 | h
  · omega
  · exact h
 cases hA
 have hcm := own.2.1; have hfl : (l.flatMap qa3.enc).length = l.length * 5 := qao qa3.enc_len l; have hone : ∀ u ∈ l.flatMap qa3.enc, u.oneCell' = true := fun u hu => by
  obtain ⟨y, _, hy⟩ := List.mem_flatMap.1 hu; exact qa3.enc_one y u hy
 obtain ⟨cur1, g1, g2, g3, g4, g5⟩ := qax ((l.flatMap qa3.enc).drop (i * 5)) (off + (i + 1) * 5) w.drew cur hh (by rw [List.length_drop, hfl]; omega); obtain ⟨W1, hW1⟩ : ∃ W1, W1 = w.drew.setCells b (off + (i + 1) * 5) ((l.flatMap qa3.enc).drop (i * 5)) := ⟨_, rfl⟩; rw [← hW1] at g1; obtain ⟨cur2, q1, q2, q3, q4, q5⟩ := qax x.enc (off + i * 5) W1 cur1 g1 (by rw [qa3.enc_len, g2]; omega); have hgr : w.grownBy W1 (some b) := by
  have := qb4 b ((l.flatMap qa3.enc).drop (i * 5)) (off + (i + 1) * 5) w.drew; rw [← hW1] at this; exact ⟨this.os, this.tape, this.output, this.size, this.block⟩
 have hgr2 := qb4 b x.enc (off + i * 5) W1; have hW1v : W1.heap[vb]? = some (.cells x.enc.toArray 85 (0, 0)) := by
  rw [hW1, qaa b _ _ _ vb hne]; exact hv
 have hcp1 : ∀ ty dc sc, (Builtin.copy_ #[141, 141] ty #[.slice (some ⟨b, off + (i + 1) * 5, none⟩) (l.length - i) dc, .slice (some ⟨b, off + i * 5, none⟩) (l.length + 1 - i) sc]).run prog w.drew = .ok (goInt (Nat.min (l.length + 1 - i) (l.length - i))) W1 := fun ty dc sc => by
  rw [hW1]; refine qcn w.drew _ _ ty 85 i0 b _ _ dc ⟨b, off + i * 5, none⟩ _ sc _ underlying141 hi0 ?_ ?_ ?_ ?_ (fun u hu => hone u (List.mem_of_mem_drop hu))
  · rw [List.length_drop, hfl, hz1]; simp only [Nat.min_def]; split <;> omega
  · intro j u hu
    rw [Addr.add_lit]; show w.cell? _ = _
    rw [cell_of_row w b _ _ _ _ hh, Nat.add_assoc]; exact hcell _ u (by rwa [List.getElem?_drop] at hu)
  · intro j hj
    rw [List.length_drop, hfl] at hj; show (w.cell? _).isSome = true
    rw [cell_of_row w b _ _ _ _ hh, Array.getElem?_eq_getElem (by omega)]; rfl
  · intro j _
    exact frozen_of_row w b _ _ _ hh
 have hcp2 : ∀ ty dc, (Builtin.copy_ #[141, 141] ty #[.slice (some ⟨b, off + i * 5, none⟩) (l.length + 1 - i) dc, .slice (some ⟨vb, 0, none⟩) 1 1]).run prog W1 = .ok (goInt (Nat.min 1 (l.length + 1 - i))) (W1.setCells b (off + i * 5) x.enc) := fun ty dc => by
  refine qcn W1 _ _ ty 85 i0 b _ _ dc ⟨vb, 0, none⟩ _ 1 _ underlying141 hi0 ?_ ?_ ?_ ?_ (qa3.enc_one x)
  · rw [qa3.enc_len, hz1]; simp only [Nat.min_def]; split <;> omega
  · intro j u hu
    rw [Addr.add_lit, Nat.zero_add, cell_of_row W1 vb _ _ _ _ hW1v]; simpa using hu
  · intro j hj
    rw [qa3.enc_len] at hj; rw [cell_of_row W1 b _ _ _ _ g1, Array.getElem?_eq_getElem (by omega)]; rfl
  · intro j _
    exact frozen_of_row W1 b _ _ _ g1
 have hov : ∀ lb cb, (callFunc 355 #[.slice (some ⟨vb, 0, none⟩) 1 1, .slice (some ⟨b, off + (i + 1) * 5, none⟩) lb cb]).run prog w = .ok (.value (.bool false)) w := fun lb cb => by
  rw [run_callFunc_extern func355 (by kernel_rfl) (by kernel_rfl) (by kernel_rfl) (e := Extern.SlicesOverlaps.overlaps #[141, 141] #[4]) (by kernel_rfl),
   Lib.run_overlaps_apart w 141 4 85 underlying141 5 (fun _ => by kernel_rfl) ⟨vb, 0, none⟩ ⟨b, off + (i + 1) * 5, none⟩ 1 1 lb cb hne 85 85 5 cur.size
    (by simp [World.shape?, hv, qa3.enc_len]) (by simp [World.shape?, hh]) (by omega) (frozen_of_row w vb _ _ _ hv) (frozen_of_row w vb _ _ _ hv)]
  rfl
 have hfin : Own qa3.enc 85 5 (W1.setCells b (off + i * 5) x.enc) lo (some ⟨b, off, none⟩) c (ins l i x) := by
  refine ⟨by rw [qfx l i x (by omega)]; exact hroom, hcm, .inr ⟨b, off, cur2, rfl, hlob, q1, by rw [q2, g2]; exact hs, qln qa3.enc_len (by omega) (fun j u hu => ?_) (fun j u hu => ?_) (fun j u hu => ?_)⟩⟩
  · have hj : j < i * 5 := by
     have := (List.getElem?_eq_some_iff.1 hu).1; rw [List.length_take] at this; omega
    rw [q3 _ (by omega), g3 _ (by omega)]; rw [List.getElem?_take_of_lt hj] at hu; exact hcell j u hu
  · rw [← Nat.add_assoc]
    exact q5 j u hu
  · rw [q4 _ (by rw [qa3.enc_len]; omega)]
    have := g5 j u hu; rwa [Nat.add_assoc] at this
 have HOV := hid hov; have HCP1 := hid hcp1; have HCP2 := hid hcp2; have HF := hid hfin; have HG := hid (show w.grownBy _ (qa8 (some ⟨b, off, none⟩) c) from (by rw [qa8, if_neg (by omega)]; exact qka hgr hgr2)); clear hov hcp1 hcp2 hfin hgr hgr2 hW1v hW1 hone hcell hh g1 g3 g4 g5 q1 q3 q4 q5 hi0 hz0 hz1 hz2 hv own hfl g2 q2 hs hcm; have hz1 : ¬ ((i : Int) = (l.length : Int)) := by omega
 have hw1 : IntKind.i64.wrap ((i : Int) + 1) = (i : Int) + 1 := by rw [IntKind.wrap_i64]; omega
 have hb1 : (0 : Int) ≤ (i : Int) + 1 := by omega
 have hin : i ≤ l.length := by omega
 have htn : ((i : Int) + 1).toNat = i + 1 := by omega
 have hb2 : ¬ (c = i + 1) := by omega
 have hb3 : (i : Int) + 1 ≤ (l.length : Int) + 1 := by omega
 have hb4 : ¬ (c = i) := by omega
 have hb5 : (i : Int) ≤ (l.length : Int) + 1 := by omega
 go_enter func327, ntmps327; go_wp2_with (simp only [HOV.out]); go_region_law (refine qge rfl (.tmp 73) (.tmp 76) 141 141 rfl (.slice (some ⟨b, off + (i + 1) * 5, none⟩) (l.length - i) (c - (i + 1))) (.slice (some ⟨b, off + i * 5, none⟩) (l.length + 1 - i) (c - i)) (by simp [Act.eval, Act.put]) (by simp [Act.eval, Act.put]) (HCP1.out _ _ _) ?_); all_goals go_wp2_with (refine qbp _ rfl (.tmp 80) (.tmp 81) 141 141 rfl (.slice (some ⟨b, off + i * 5, none⟩) (l.length + 1 - i) (c - i)) (.slice (some ⟨vb, 0, none⟩) 1 1) (by simp [Act.eval]) (by simp [Act.eval]) (HCP2.out _ _) ?_)
 all_goals go_ret
 all_goals exact ⟨_, c, rfl, HF.out, HG.out, .inl ⟨rfl, rfl⟩⟩
theorem qlm (l : List qa3) (b off c lo vb i : Nat) (x : qa3) (w : World) (own : Own qa3.enc 85 5 w lo (some ⟨b, off, none⟩) c l) (hv : w.heap[vb]? = some (.cells x.enc.toArray 85 (0, 0))) (hlo : lo ≤ w.heap.size) (hl : l.length ≤ 100000)
 (hi : i < l.length) (hroom : c < l.length + 1) :
 Calls prog 327 #[.slice (some ⟨b, off, none⟩) l.length c, .int .i64 i, .slice (some ⟨vb, 0, none⟩) 1 1] w (qd1 lo (some ⟨b, off, none⟩) c l i x w) := by
 obtain ⟨i0, hi0, hz0, hz1, hz2⟩ := info_parts qct; have hmax := own.max; have hlen := own.len; obtain ⟨b', off', cur, hA, hlob, hh, hs, hcell⟩ : ∃ b' off' cur, (some (⟨b, off, none⟩ : Addr)) = some ⟨b', off', none⟩ ∧ lo ≤ b' ∧ w.heap[b']? = some (.cells cur 85 (0, 0)) ∧ off' + c * 5 ≤ cur.size ∧ ∀ j (u : Value), (l.flatMap qa3.enc)[j]? = some u → cur[off' + j]? = some u := by
  rcases own.2.2 with h0 | h
  · omega
  · exact h
 cases hA
 have hfl : (l.flatMap qa3.enc).length = l.length * 5 := qao qa3.enc_len l; have hone : ∀ u ∈ l.flatMap qa3.enc, u.oneCell' = true := fun u hu => by
  obtain ⟨y, _, hy⟩ := List.mem_flatMap.1 hu; exact qa3.enc_one y u hy
 have hbw : b < w.heap.size := by
  rcases Nat.lt_or_ge b w.heap.size with h | h
  · exact h
  · rw [Array.getElem?_eq_none h] at hh; cases hh
 have hvw : vb < w.heap.size := by
  rcases Nat.lt_or_ge vb w.heap.size with h | h
  · exact h
  · rw [Array.getElem?_eq_none h] at hv; cases hv
 have hik : i + (l.length + 1 - i) = l.length + 1 := by omega
 have hkk : (l.length : Int) + 1 - (i : Int) = ((l.length + 1 - i : Nat) : Int) := by omega
 have hold : (Builtin.firstCells i0.size i (.slice (some ⟨b, off, none⟩) i c)).run prog w.drew = .ok ((l.flatMap qa3.enc).take (i * 5)).toArray w.drew := by
  rw [hz1]; exact run_firstCells_some w.drew 5 i ⟨b, off, none⟩ i c _ (by rw [List.length_take, hfl]; omega) (fun j v hj => by
   rw [Addr.add_lit]
   show w.cell? _ = _
   rw [cell_of_row w b _ _ _ _ hh]
   rw [List.getElem?_take] at hj
   split at hj
   · exact hcell j v hj
   · cases hj)
 obtain ⟨G, hG⟩ : ∃ G, G = grownCap w (l.length + 1) c 85 := ⟨_, rfl⟩; obtain ⟨ROW, hROW⟩ : ∃ ROW : Array Value, ROW = ((l.flatMap qa3.enc).take (i * 5)).toArray ++ Builtin.zeroCells (Value.cells (.agg #[.string ByteArray.empty, .int .u64 0, .int .u64 0, .int .i64 0, .int .i64 0])) (l.length + 1 - i) ++ Builtin.zeroCells (Value.cells (.agg #[.string ByteArray.empty, .int .u64 0, .int .u64 0, .int .i64 0, .int .i64 0])) (G - (l.length + 1)) := ⟨_, rfl⟩; obtain ⟨W0, hW0⟩ : ∃ W0, W0 = w.drew.alloc (.cells ROW 85) := ⟨_, rfl⟩; have hrz : ∀ ty, (Builtin.append_ #[141, 3] ty #[.slice (some ⟨b, off, none⟩) i c, .int .i64 ((l.length : Int) + 1 - (i : Int))]).run prog w = .ok (.slice (some ⟨w.heap.size, 0, none⟩) (l.length + 1) G) W0 := fun ty => by
  have h := Lib.run_append_grow_zeros w 141 3 ty 85 i0 _ .i64 .i64 underlying141 underlying3 hi0 hz0 (some ⟨b, off, none⟩) i c _ hold (l.length + 1 - i) (by omega) (by rw [hz1]; omega) (by omega) (by omega) (by rw [hz2]; omega) (by rw [hz2, hik]; exact growslice_fits hroom (by omega)); rw [hik] at h; rw [hkk, hW0, hROW, hG]; exact h
 have hGn : l.length + 1 ≤ G := by rw [hG]; exact grownCap_ge w _ _ _
 have hGm : G ≤ maxLen := by
  rw [hG]; exact grownCap_le_maxLen w (l.length + 1) c 85 (by unfold maxLen; omega)
 have hG63 : G ≤ 9223372036854775807 := by
  have := hGm; unfold maxLen at this; omega
 have hRsz : ROW.size = G * 5 := by
  rw [hROW]; simp [Builtin.zeroCells, Value.cells, hfl]; omega
 have hRtake : ∀ j u, ((l.flatMap qa3.enc).take (i * 5))[j]? = some u → ROW[0 + j]? = some u := fun j u hu => by
  have hj := (List.getElem?_eq_some_iff.1 hu).1; rw [hROW, Nat.zero_add, Array.append_assoc, Array.getElem?_append_left (by simpa using hj)]; simpa using hu
 have hsz0 : w.heap.size < W0.heap.size := by rw [hW0]; simp [World.alloc]
 have hW0N : W0.heap[w.heap.size]? = some (.cells ROW 85 (0, 0)) := by
  rw [hW0]; show (w.drew.heap.push _)[w.drew.heap.size]? = _
  exact Array.getElem?_push_size
 have hW0o : ∀ j, j < w.heap.size → W0.heap[j]? = w.heap[j]? := fun j hj => by rw [hW0]; exact Below.heap_alloc w.drew _ j hj
 have hgr0 : w.grownBy W0 (some b) := ⟨by rw [hW0]; rfl, by rw [hW0]; rfl, by rw [hW0]; rfl, Nat.le_of_lt hsz0, fun j hj _ => hW0o j hj⟩; obtain ⟨cur1, g1, g2, g3, g4, g5⟩ := qax x.enc (0 + i * 5) W0 ROW hW0N (by rw [qa3.enc_len, hRsz]; omega); obtain ⟨W1, hW1⟩ : ∃ W1, W1 = W0.setCells w.heap.size (0 + i * 5) x.enc := ⟨_, rfl⟩; rw [← hW1] at g1; have hgr1 : W0.grownBy W1 (some w.heap.size) := by rw [hW1]; exact qb4 w.heap.size x.enc (0 + i * 5) W0
 obtain ⟨cur2, q1, q2, q3, q4, q5⟩ := qax ((l.flatMap qa3.enc).drop (i * 5)) (0 + (i + 1) * 5) W1.drew cur1 g1 (by rw [List.length_drop, hfl, g2, hRsz]; omega); obtain ⟨W2, hW2⟩ : ∃ W2, W2 = W1.drew.setCells w.heap.size (0 + (i + 1) * 5) ((l.flatMap qa3.enc).drop (i * 5)) := ⟨_, rfl⟩; rw [← hW2] at q1; have hgr2 : W1.grownBy W2 (some w.heap.size) := by
  have := qb4 w.heap.size ((l.flatMap qa3.enc).drop (i * 5)) (0 + (i + 1) * 5) W1.drew; rw [← hW2] at this; exact ⟨this.os, this.tape, this.output, this.size, this.block⟩
 have hcp1 : ∀ ty dc, (Builtin.copy_ #[141, 141] ty #[.slice (some ⟨w.heap.size, 0 + i * 5, none⟩) (l.length + 1 - i) dc, .slice (some ⟨vb, 0, none⟩) 1 1]).run prog W0 = .ok (goInt (Nat.min 1 (l.length + 1 - i))) W1 := fun ty dc => by
  rw [hW1]; refine qcn W0 _ _ ty 85 i0 w.heap.size _ _ dc ⟨vb, 0, none⟩ _ 1 _ underlying141 hi0 ?_ ?_ ?_ ?_ (qa3.enc_one x)
  · rw [qa3.enc_len, hz1]; simp only [Nat.min_def]; split <;> omega
  · intro j u hu
    rw [Addr.add_lit, Nat.zero_add, cell_of_row W0 vb _ _ _ _ ((hW0o vb hvw).trans hv)]; simpa using hu
  · intro j hj
    rw [qa3.enc_len] at hj; rw [cell_of_row W0 _ _ _ _ _ hW0N, Array.getElem?_eq_getElem (by omega)]; rfl
  · intro j _
    exact frozen_of_row W0 _ _ _ _ hW0N
 have hcp2 : ∀ ty dc sc, (Builtin.copy_ #[141, 141] ty #[.slice (some ⟨w.heap.size, 0 + (i + 1) * 5, none⟩) (l.length - i) dc, .slice (some ⟨b, off + i * 5, none⟩) (l.length - i) sc]).run prog W1.drew = .ok (goInt (Nat.min (l.length - i) (l.length - i))) W2 := fun ty dc sc => by
  rw [hW2]; have hbN : b ≠ w.heap.size := by omega
  have hhb : W1.drew.heap[b]? = some (.cells cur 85 (0, 0)) := by
   show W1.heap[b]? = _
   rw [hW1, qaa _ _ _ _ b hbN, hW0o b hbw]; exact hh
  refine qcn W1.drew _ _ ty 85 i0 w.heap.size _ _ dc ⟨b, off + i * 5, none⟩ _ sc _ underlying141 hi0 ?_ ?_ ?_ ?_ (fun u hu => hone u (List.mem_of_mem_drop hu))
  · rw [List.length_drop, hfl, hz1]; simp only [Nat.min_def]; split <;> omega
  · intro j u hu
    rw [Addr.add_lit]; rw [cell_of_row W1.drew b _ _ _ _ hhb, Nat.add_assoc]; exact hcell _ u (by rwa [List.getElem?_drop] at hu)
  · intro j hj
    rw [List.length_drop, hfl] at hj; rw [cell_of_row W1.drew _ _ _ _ _ g1, Array.getElem?_eq_getElem (by omega)]; rfl
  · intro j _
    exact frozen_of_row W1.drew _ _ _ _ g1
 have hfin : Own qa3.enc 85 5 W2 lo (some ⟨w.heap.size, 0, none⟩) G (ins l i x) := by
  refine ⟨by rw [qfx l i x (by omega)]; exact hGn, hGm, .inr ⟨w.heap.size, 0, cur2, rfl, hlo, q1, by omega, qln qa3.enc_len (by omega) (fun j u hu => ?_) (fun j u hu => ?_) (fun j u hu => ?_)⟩⟩
  · have hj : j < i * 5 := by
     have := (List.getElem?_eq_some_iff.1 hu).1; rw [List.length_take] at this; omega
    rw [q3 _ (by omega), g3 _ (by omega)]; exact hRtake j u hu
  · have hj := (List.getElem?_eq_some_iff.1 hu).1
    rw [qa3.enc_len] at hj; rw [q3 _ (by omega), ← Nat.add_assoc]; exact g5 j u hu
  · have := q5 j u hu
    rwa [Nat.add_assoc] at this
 have hgrf : w.grownBy W2 (some b) := ⟨(hgr2.os.trans hgr1.os).trans hgr0.os, (hgr2.tape.trans hgr1.tape).trans hgr0.tape, (hgr2.output.trans hgr1.output).trans hgr0.output, Nat.le_trans hgr0.size (Nat.le_trans hgr1.size hgr2.size),
  fun j hj _ => ((hgr2.block j (by have := hgr1.size; omega) (by simp; omega)).trans (hgr1.block j (by omega) (by simp; omega))).trans (hW0o j hj)⟩
 have HRZ := hid hrz; have HCP1 := hid hcp1; have HCP2 := hid hcp2; have HF := hid hfin; have HG := hid (show w.grownBy W2 (qa8 (some ⟨b, off, none⟩) c) from (by rw [qa8, if_neg (by omega)]; exact hgrf)); obtain ⟨N, hN⟩ : ∃ N, N = w.heap.size := ⟨_, rfl⟩; rw [← hN] at HRZ HCP1 HCP2 HF; have HN := hid hN; clear hfin hgrf hcp1 hcp2 hrz hgr2 hW2 q1 q2 q3 q4 q5 hgr1 hW1 g1 g2 g3 g4 g5 hgr0 hW0o hW0N hsz0 hRtake hRsz hGm hW0 hROW hG hold hik hvw hone hfl hcell hs hh hlob hi0 hz0 hz1 hz2 own hv hN hkk; simp only [Nat.zero_add] at HCP1 HCP2; have hz1 : ¬ ((i : Int) = (l.length : Int)) := by omega
 have hz3 : (c : Int) < (l.length : Int) + 1 := by omega
 have hw1 : IntKind.i64.wrap ((i : Int) + 1) = (i : Int) + 1 := by rw [IntKind.wrap_i64]; omega
 have hb1 : (0 : Int) ≤ (i : Int) + 1 := by omega
 have hin : i ≤ l.length := by omega
 have htn : ((i : Int) + 1).toNat = i + 1 := by omega
 have hGi : ¬ (G = i) := by omega
 have hGim : ¬ (G = i + 1) := by omega
 have hci : ¬ (c = i) := by omega
 have hb3 : (i : Int) ≤ (l.length : Int) := by omega
 go_enter func327, ntmps327; go_wp2_with (first
  | (at_builtin; refine Lib.wpList_append_run _ rfl _ _ _ _ rfl _ _ rfl rfl _ _ (HRZ.out _) ?_)
  | (refine qbp _ rfl (.tmp 43) (.tmp 44) 141 141 rfl (.slice (some ⟨N, i * 5, none⟩) (l.length + 1 - i) (G - i)) (.slice (some ⟨vb, 0, none⟩) 1 1) (by simp [Act.eval]) (by simp [Act.eval]) (HCP1.out _ _) ?_))
 go_region_law (refine qge rfl (.tmp 50) (.tmp 53) 141 141 rfl (.slice (some ⟨N, (i + 1) * 5, none⟩) (l.length - i) (G - (i + 1))) (.slice (some ⟨b, off + i * 5, none⟩) (l.length - i) (c - i)) (by simp [Act.eval, Act.put]) (by simp [Act.eval, Act.put]) (HCP2.out _ _ _) ?_); all_goals go_wp2
 all_goals go_ret
 all_goals exact ⟨_, G, rfl, HF.out, HG.out, .inr ⟨N, rfl, Nat.le_of_eq HN.out.symm⟩⟩
theorem qnj (l : List qa3) (A : Option Addr) (c lo vb i : Nat) (x : qa3) (w : World) (own : Own qa3.enc 85 5 w lo A c l) (hv : w.heap[vb]? = some (.cells x.enc.toArray 85 (0, 0))) (hlo : lo ≤ w.heap.size) (hl : l.length ≤ 100000)
 (hi : i ≤ l.length) (hne : c = 0 ∨ ∀ b off, A = some ⟨b, off, none⟩ → vb ≠ b) :
 Calls prog 327 #[.slice A l.length c, .int .i64 i, .slice (some ⟨vb, 0, none⟩) 1 1] w (qd1 lo A c l i x w) := by
 rcases Nat.lt_or_ge i l.length with h | h
 · obtain ⟨b, off, rfl, h1, h2⟩ : ∃ b off, A = some ⟨b, off, none⟩ ∧ lo ≤ b ∧ b < w.heap.size := by
    rcases own.lt with h0 | h0
    · have := own.len; omega
    · exact h0
   rcases Nat.lt_or_ge c (l.length + 1) with h' | h'
   · exact qlm l b off c lo vb i x w own hv hlo hl h h'
   · exact qk8 l b off c lo vb i x w own hv hl h h' (by rcases hne with hne | hne; exact absurd h' (by omega); exact hne b off rfl)
 · obtain rfl : i = l.length := by omega
   exact qni l A c lo vb x w own hv hlo hl
end
section
open Go.RowKit
theorem Own.setCall {w : World} {lo : Nat} {b off c : Nat} {l : List qa7} (h : Own qa7.enc 40 5 w lo (some ⟨b, off, none⟩) c l) {i : Nat} (hi : i < l.length) (x : qa7) :
 Own qa7.enc 40 5 (w.setCells b (off + i * 5) x.enc) lo (some ⟨b, off, none⟩) c (l.set i x) := by
 obtain ⟨h1, h2, h3⟩ := h; rcases h3 with h3 | ⟨b', off', cur, hA, hlo, hh, hs, hc⟩
 · omega
 cases hA
 obtain ⟨cur', g1, g2, g3, g4, g5⟩ := qax x.enc (off + i * 5) w cur hh (by rw [qa7.enc_len]; omega); rw [qa7.enc_len] at g4; refine ⟨by rw [List.length_set]; exact h1, h2, .inr ⟨b, off, cur', rfl, hlo, g1, by omega, ?_⟩⟩; intro j u hu; have hlt := (List.getElem?_eq_some_iff.1 hu).1; rw [qao qa7.enc_len, List.length_set] at hlt; obtain ⟨q, r, rfl, hq, hr⟩ : ∃ q r, j = q * 5 + r ∧ q < l.length ∧ r < 5 := ⟨j / 5, j % 5, by omega, by omega, by omega⟩; rw [qb0 qa7.enc_len _ q (by rw [List.length_set]; exact hq) r hr, List.getElem_set] at hu; have hold := fun u' => hc (q * 5 + r) u'
 rw [qb0 qa7.enc_len l q hq r hr] at hold; by_cases hqi : i = q
 · subst hqi
   rw [if_pos rfl] at hu; have := g5 r u hu; rwa [Nat.add_assoc] at this
 · rw [if_neg hqi] at hu
   by_cases hlq : q < i
   · rw [g3 _ (by omega)]; exact hold u hu
   · rw [g4 _ (by omega)]; exact hold u hu
def qbz (c : qa7) : Value := .agg #[.int .i64 c.kind, .string c.key, .string c.val, .string c.tx, .slice c.gA c.gn c.gc]
def Deep (w : World) (B : Nat) : Nat → qa7 → Prop
 | 0, _ => False
 | n + 1, c => ∃ g, qbr w B c g ∧ g.length ≤ 1000000 ∧ ∀ x ∈ g, Deep w B n x
theorem Deep.below {w w' : World} {B : Nat} (hb : Below B w w') : ∀ {n : Nat} {c : qa7}, Deep w B n c → Deep w' B n c
 | 0, _, h => h
 | _ + 1, _, ⟨g, h1, h2, h3⟩ => ⟨g, h1.below hb, h2, fun x hx => (h3 x hx).below hb⟩
theorem Deep.more {w : World} {B B' : Nat} (hB : B ≤ B') : ∀ {n : Nat} {c : qa7}, Deep w B n c → Deep w B' n c
 | 0, _, h => h
 | _ + 1, _, ⟨g, h1, h2, h3⟩ => ⟨g, h1.more hB, h2, fun x hx => (h3 x hx).more hB⟩
def qus (c : qa7) (g : List qa7) (w : World) (e : Ending) (w' : World) : Prop := ∃ (y : qa7) (M : List qa7), e = .returned (qbz y) ∧ CSim y c ∧ Sl qa7.enc 5 w' w'.heap.size y.gA y.gn y.gc M ∧ Sims M g ∧ Below w.heap.size w w' ∧ (M = [] ∨ ∃ x off, y.gA = some ⟨x, off, none⟩ ∧ w.heap.size ≤ x)
theorem qy5 {W W' : World} {n q : Nat} {u v0 v1 v2 v3 v4 : Value} (hb : Below W.heap.size W W') (hn : n < W.heap.size) (hq : q < W.heap.size)
 (h : W.cell? ⟨n, 4, none⟩ = some u ∧ W.cell? ⟨q, 0, none⟩ = some v0 ∧ W.cell? ⟨q, 1, none⟩ = some v1 ∧ W.cell? ⟨q, 2, none⟩ = some v2 ∧ W.cell? ⟨q, 3, none⟩ = some v3 ∧ W.cell? ⟨q, 4, none⟩ = some v4) :
 W'.cell? ⟨n, 4, none⟩ = some u ∧ W'.cell? ⟨q, 0, none⟩ = some v0 ∧ W'.cell? ⟨q, 1, none⟩ = some v1 ∧ W'.cell? ⟨q, 2, none⟩ = some v2 ∧ W'.cell? ⟨q, 3, none⟩ = some v3 ∧ W'.cell? ⟨q, 4, none⟩ = some v4 := by
 rw [hb.cell (p := ⟨n, 4, none⟩) hn, hb.cell (p := ⟨q, 0, none⟩) hq, hb.cell (p := ⟨q, 1, none⟩) hq, hb.cell (p := ⟨q, 2, none⟩) hq, hb.cell (p := ⟨q, 3, none⟩) hq, hb.cell (p := ⟨q, 4, none⟩) hq]; exact h
theorem qba {B : Nat} {w w' : World} {b : Nat} (h : Below B w w') (hb : B ≤ b) (o : Nat) (u0 u1 u2 u3 u4 : Value) : Below B w (((((w'.setCell ⟨b, o, none⟩ u0).setCell ⟨b, o + 1, none⟩ u1).setCell ⟨b, o + 2, none⟩ u2).setCell ⟨b, o + 3, none⟩ u3).setCell ⟨b, o + 4, none⟩ u4) :=
 ((((h.setCell hb _).setCell hb _).setCell hb _).setCell hb _).setCell hb _
theorem qco {w : World} {b p : Nat} (h : p ≠ b) (o : Nat) (u0 u1 u2 u3 u4 : Value) : (((((w.setCell ⟨b, o, none⟩ u0).setCell ⟨b, o + 1, none⟩ u1).setCell ⟨b, o + 2, none⟩ u2).setCell ⟨b, o + 3, none⟩ u3).setCell ⟨b, o + 4, none⟩ u4).heap[p]? = w.heap[p]? := by
 rw [Below.heap_setCell _ _ _ _ h, Below.heap_setCell _ _ _ _ h, Below.heap_setCell _ _ _ _ h, Below.heap_setCell _ _ _ _ h, Below.heap_setCell _ _ _ _ h]
theorem qcp {w : World} {b p o' : Nat} (h : p ≠ b) (o : Nat) (u0 u1 u2 u3 u4 : Value) : (((((w.setCell ⟨b, o, none⟩ u0).setCell ⟨b, o + 1, none⟩ u1).setCell ⟨b, o + 2, none⟩ u2).setCell ⟨b, o + 3, none⟩ u3).setCell ⟨b, o + 4, none⟩ u4).cell? ⟨p, o', none⟩ = w.cell? ⟨p, o', none⟩ := by
 unfold World.cell?; rw [qco h]
theorem qz4 {W : World} {n q b : Nat} {u v0 v1 v2 v3 v4 : Value} (hn : n ≠ b) (hq : q ≠ b) (o : Nat) (u0 u1 u2 u3 u4 : Value)
 (h : W.cell? ⟨n, 4, none⟩ = some u ∧ W.cell? ⟨q, 0, none⟩ = some v0 ∧ W.cell? ⟨q, 1, none⟩ = some v1 ∧ W.cell? ⟨q, 2, none⟩ = some v2 ∧ W.cell? ⟨q, 3, none⟩ = some v3 ∧ W.cell? ⟨q, 4, none⟩ = some v4) :
 (((((W.setCell ⟨b, o, none⟩ u0).setCell ⟨b, o + 1, none⟩ u1).setCell ⟨b, o + 2, none⟩ u2).setCell ⟨b, o + 3, none⟩ u3).setCell ⟨b, o + 4, none⟩ u4).cell? ⟨n, 4, none⟩ = some u ∧ (((((W.setCell ⟨b, o, none⟩ u0).setCell ⟨b, o + 1, none⟩ u1).setCell ⟨b, o + 2, none⟩ u2).setCell ⟨b, o + 3, none⟩ u3).setCell ⟨b, o + 4, none⟩ u4).cell? ⟨q, 0, none⟩ = some v0 ∧ (((((W.setCell ⟨b, o, none⟩ u0).setCell ⟨b, o + 1, none⟩ u1).setCell ⟨b, o + 2, none⟩ u2).setCell ⟨b, o + 3, none⟩ u3).setCell ⟨b, o + 4, none⟩ u4).cell? ⟨q, 1, none⟩ = some v1 ∧ (((((W.setCell ⟨b, o, none⟩ u0).setCell ⟨b, o + 1, none⟩ u1).setCell ⟨b, o + 2, none⟩ u2).setCell ⟨b, o + 3, none⟩ u3).setCell ⟨b, o + 4, none⟩ u4).cell? ⟨q, 2, none⟩ = some v2 ∧ (((((W.setCell ⟨b, o, none⟩ u0).setCell ⟨b, o + 1, none⟩ u1).setCell ⟨b, o + 2, none⟩ u2).setCell ⟨b, o + 3, none⟩ u3).setCell ⟨b, o + 4, none⟩ u4).cell? ⟨q, 3, none⟩ = some v3 ∧ (((((W.setCell ⟨b, o, none⟩ u0).setCell ⟨b, o + 1, none⟩ u1).setCell ⟨b, o + 2, none⟩ u2).setCell ⟨b, o + 3, none⟩ u3).setCell ⟨b, o + 4, none⟩ u4).cell? ⟨q, 4, none⟩ = some v4 := by
 rw [qcp hn, qcp hq, qcp hq, qcp hq, qcp hq, qcp hq]; exact h
structure qBf (w : World) (c : qa7) (g : List qa7) (A : Option Addr) (cc k : Nat) (wr : World) : Prop where
 own : ∃ M : List qa7, M.length = g.length ∧ Own qa7.enc 40 5 wr (w.heap.size + 2) A cc M ∧ (∀ i, k ≤ i → M[i]? = g[i]?) ∧ ∀ i (h1 : i < M.length) (h2 : i < g.length), i < k → CSim M[i] g[i] ∧ M[i].gc ≤ 9223372036854775807
 row0 : wr.heap[w.heap.size]? = some (.cells #[.int .i64 c.kind, .string c.key, .string c.val, .string c.tx, .slice A g.length cc] 40 (0, 0))
 row1 : wr.heap[w.heap.size + 1]? = some (.cells #[.int .i64 0, .string ByteArray.empty, .string ByteArray.empty, .string ByteArray.empty, .slice none 0 0] 40 (0, 0))
 below : Below w.heap.size w wr
 size : w.heap.size + 2 ≤ wr.heap.size
theorem qer (d : Nat) : ∀ (c : qa7) (g : List qa7) (w : World), qbr w w.heap.size c g → g.length ≤ 1000000 → (∀ x ∈ g, Deep w w.heap.size d x) → Calls prog 46 #[qbz c] w (qus c g w) := by
 induction d using Nat.strongRecOn with
 | _ d ih =>
  intro c g w hc hlen hdeep; have IH := hid ih; clear ih; obtain ⟨kind, key, val, to', gA, gn, gc⟩ := c; obtain rfl : gn = g.length := hc.len; have HC := hid hc; have HD := hid hdeep; have HL := hid hlen; clear hc hdeep hlen; unfold qbz; go_enter func46, ntmps46; go_wp2_with fail; refine (qhx g gA gc _ ?_ HC.out.cap HC.out.max HL.out).mono ?_
  · exact (HC.out.arr.below (by repeat (first | exact Below.refl _ _ | assumption | refine Below.drew ?_ | refine qa1 ?_ _ | refine Below.alloc ?_ (by first | omega | simp <;> omega) _ | refine Below.setCell ?_ (by first | omega | simp <;> omega) _))).more (by first | omega | simp <;> omega)
  rintro e w1 ⟨A, cc, rfl, hown, hb1⟩; have hz1 := hb1.size; simp only [World.size_alloc] at hz1; have hR0 : w1.heap[w.heap.size]? = some (.cells #[.int .i64 kind, .string key, .string val, .string to', .slice gA g.length gc] 40 (0, 0)) := (hb1.block _ (by simp; omega)).trans (by rw [qa2, if_neg (by simp), qa2, if_pos rfl]); have hR1 : w1.heap[w.heap.size + 1]? = some (.cells #[.int .i64 0, .string ByteArray.empty, .string ByteArray.empty, .string ByteArray.empty, .slice none 0 0] 40 (0, 0)) := (hb1.block _ (by simp)).trans (by rw [qa2, if_pos (by simp)]; rfl); have hB1 : Below w.heap.size w w1 := Below.trans (by repeat (first | exact Below.refl _ _ | assumption | refine Below.drew ?_ | refine qa1 ?_ _ | refine Below.alloc ?_ (by first | omega | simp <;> omega) _ | refine Below.setCell ?_ (by first | omega | simp <;> omega) _)) (hb1.mono (by first | omega | simp <;> omega)); have f4 := frozen_of_row w1 _ 4 _ _ hR0; have hl0 : w.heap.size < w1.heap.size := by omega
  have hS0 : (w1.setCell ⟨w.heap.size, 4, none⟩ (.slice A g.length cc)).heap[w.heap.size]? = some (.cells #[.int .i64 kind, .string key, .string val, .string to', .slice A g.length cc] 40 (0, 0)) := by
   have := heap_setCell_same _ (w.heap.size) 4 _ _ (.slice A g.length cc) hR0; exact this
  have hS1 : (w1.setCell ⟨w.heap.size, 4, none⟩ (.slice A g.length cc)).heap[w.heap.size + 1]? = _ := (Below.heap_setCell _ _ _ _ (by simp)).trans hR1; have hI : qBf w ⟨kind, key, val, to', gA, g.length, gc⟩ g A cc 0 (w1.setCell ⟨w.heap.size, 4, none⟩ (.slice A g.length cc)) :=
   ⟨⟨g, rfl, Own.setCell (hown.lower (by simp)) (by show w.heap.size < w.heap.size + 2; omega) _, fun _ _ => rfl, fun _ _ _ h => absurd h (by omega)⟩, hS0, hS1, hB1.setCell (Nat.le_refl _) _, by simp; omega⟩
  have HI := hid hI; have hm := hown.max; have hcl := hown.len; clear hI hS0 hS1 hown hb1 hB1; have c4 := cell_of_row w1 _ 4 _ _ _ hR0; go_wp2_with fail; go_loopw [12] (fun v12 wr => ∃ k : Nat, k ≤ g.length ∧ v12 = .int .i64 k ∧ qBf w ⟨kind, key, val, to', gA, g.length, gc⟩ g A cc k wr) (fun v12 _ => g.length - (intOf v12).toNat)
  case atStart => exact ⟨0, Nat.zero_le _, rfl, HI.out⟩
  case round =>
   obtain ⟨k, hkl, rfl, ⟨M, hML, hO, hMg, hMs⟩, hr0, hr1, hbr, hzr⟩ := hrel; by_cases hlt : k < g.length
   · have hMk : M[k]'(by omega) = g[k] := by
      have := hMg k (Nat.le_refl _); rw [List.getElem?_eq_getElem (by omega), List.getElem?_eq_getElem hlt] at this; exact Option.some.inj this
     obtain ⟨b, off, rfl, hlb, hbw⟩ : ∃ b off, A = some ⟨b, off, none⟩ ∧ w.heap.size + 2 ≤ b ∧ b < wr.heap.size := by
      rcases hO.lt with h0 | h0
      · omega
      · exact h0
     have f0 := hO.frozen rfl (by omega) (off + k * 5); have f1 := hO.frozen rfl (by omega) (off + k * 5 + 1); have f2 := hO.frozen rfl (by omega) (off + k * 5 + 2); have f3 := hO.frozen rfl (by omega) (off + k * 5 + 3); have f4 := hO.frozen rfl (by omega) (off + k * 5 + 4); obtain ⟨b', off', hA, hB, d0, d1, d2, d3, d4⟩ := (hO.arr qa7.enc_len).call0 (i := k) (by omega); cases hA
     rw [hMk] at d0 d1 d2 d3 d4; have HMS := hid hMs; clear hMs; obtain ⟨d', g', hd', hcg, hgl, hgd⟩ : ∃ d' g', d' < d ∧ qbr w w.heap.size g[k] g' ∧ g'.length ≤ 1000000 ∧ ∀ x ∈ g', Deep w w.heap.size d' x := by
      have h0 := HD.out g[k] (List.getElem_mem hlt); cases d with
      | zero => exact h0.elim
      | succ d' => obtain ⟨g', h1, h2, h3⟩ := h0; exact ⟨d', g', by omega, h1, h2, h3⟩
     have HGL := hid hgl; have HD' := hid hd'; clear hgl hd'; have n4 := cell_of_row wr _ 4 _ _ _ hr0; have HO := hid hO; have HR := hid hr0; have HS := hid hr1; have HG := hid hMg; have HDK := hid (hcg.below hbr); have HDD : Hid (∀ x ∈ g', Deep wr w.heap.size d' x) := hid fun x hx => (hgd x hx).below hbr
     have hsw : w.heap.size < wr.heap.size := by omega
     clear hO hr0 hr1 hMg hMk hcg hgd; have i1 : (0 : Int) ≤ (k : Int) := by omega
     have i2 : (k : Int) < (g.length : Int) := by omega
     go_upto_region 5 with fail; obtain ⟨wl, hwl⟩ : ∃ wl, wl = wr.alloc (.cells #[.int .i64 g[k].kind, .string g[k].key, .string g[k].val, .string g[k].tx, .slice g[k].gA g[k].gn g[k].gc] 40) := ⟨_, rfl⟩; rw [← hwl]; have zl : wl.heap.size = wr.heap.size + 1 := by rw [hwl]; simp
     have bl : Below wr.heap.size wr wl := by rw [hwl]; exact (Below.refl _ _).alloc (Nat.le_refl _) _
     have HK := hid (show wl.cell? ⟨w.heap.size, 4, none⟩ = some (.slice (some ⟨b, off, none⟩) g.length cc) ∧ wl.cell? ⟨wr.heap.size, 0, none⟩ = some (.int .i64 g[k].kind) ∧ wl.cell? ⟨wr.heap.size, 1, none⟩ = some (.string g[k].key) ∧ wl.cell? ⟨wr.heap.size, 2, none⟩ = some (.string g[k].val) ∧ wl.cell? ⟨wr.heap.size, 3, none⟩ = some (.string g[k].tx) ∧ wl.cell? ⟨wr.heap.size, 4, none⟩ = some (.slice g[k].gA g[k].gn g[k].gc) from ⟨(bl.cell (p := ⟨w.heap.size, 4, none⟩) hsw).trans n4, by rw [hwl]; simp [go_sem], by rw [hwl]; simp [go_sem], by rw [hwl]; simp [go_sem], by rw [hwl]; simp [go_sem], by rw [hwl]; simp [go_sem]⟩); have HOl := hid (HO.out.below bl); have HRl := hid ((bl.block _ hsw).trans HR.out); have HSl := hid ((bl.block (w.heap.size + 1) (by omega)).trans HS.out); have HDl := hid ((HDK.out.below (bl.mono hbr.size)).more (show w.heap.size ≤ wl.heap.size by omega)); have HDDl : Hid (∀ x ∈ g', Deep wl wl.heap.size d' x) := hid fun x hx => ((HDD.out x hx).below (bl.mono hbr.size)).more (show w.heap.size ≤ wl.heap.size by omega)
     have HBl := hid (hbr.trans (bl.mono hbr.size)); have f0l := (bl.frozen (p := ⟨b, off + k * 5, none⟩) hbw).trans f0; have f1l := (bl.frozen (p := ⟨b, off + k * 5 + 1, none⟩) hbw).trans f1; have f2l := (bl.frozen (p := ⟨b, off + k * 5 + 2, none⟩) hbw).trans f2; have f3l := (bl.frozen (p := ⟨b, off + k * 5 + 3, none⟩) hbw).trans f3; have f4l := (bl.frozen (p := ⟨b, off + k * 5 + 4, none⟩) hbw).trans f4; have d0l := (bl.cell (p := ⟨b, off + k * 5, none⟩) hbw).trans d0; have d1l := (bl.cell (p := ⟨b, off + k * 5 + 1, none⟩) hbw).trans d1; have d2l := (bl.cell (p := ⟨b, off + k * 5 + 2, none⟩) hbw).trans d2; have d3l := (bl.cell (p := ⟨b, off + k * 5 + 3, none⟩) hbw).trans d3; have d4l := (bl.cell (p := ⟨b, off + k * 5 + 4, none⟩) hbw).trans d4; clear d0 d1 d2 d3 d4; clear HO HR HS HDK HDD hbr bl f0 f1 f2 f3 f4 n4 hwl HI c4 hR0 hR1; have IHk : ∀ W : World, Below wl.heap.size wl W → Calls prog 46 #[.agg #[.int .i64 g[k].kind, .string g[k].key, .string g[k].val, .string g[k].tx, .slice g[k].gA g[k].gn g[k].gc]] W (qus g[k] g' W) := fun W hW => IH.out d' HD'.out g[k] g' W ((HDl.out.below hW).more hW.size) HGL.out fun x hx => ((HDDl.out x hx).below hW).more hW.size
     have hq : wr.heap.size < wl.heap.size := by omega
     have hn : w.heap.size < wl.heap.size := by omega
     have hbl : b < wl.heap.size := by omega
     have hnb : w.heap.size ≠ b := by omega
     have hqb : wr.heap.size ≠ b := by omega
     go_region_held3 (fun W => W.cell? ⟨w.heap.size, 4, none⟩ = some (.slice (some ⟨b, off, none⟩) g.length cc) ∧ W.cell? ⟨wr.heap.size, 0, none⟩ = some (.int .i64 g[k].kind) ∧ W.cell? ⟨wr.heap.size, 1, none⟩ = some (.string g[k].key) ∧ W.cell? ⟨wr.heap.size, 2, none⟩ = some (.string g[k].val) ∧ W.cell? ⟨wr.heap.size, 3, none⟩ = some (.string g[k].tx) ∧ W.cell? ⟨wr.heap.size, 4, none⟩ = some (.slice g[k].gA g[k].gn g[k].gc)) (first | (with_reducible refine qy5 (W := wl) ?_ hn hq HK.out; (repeat (first | with_reducible exact Below.refl _ _ | with_reducible assumption | with_reducible refine Below.drew ?_ | with_reducible refine qa1 ?_ _)); done) | with_reducible exact qz4 hnb hqb _ _ _ _ _ _ (qy5 (W := wl) stC hn hq HK.out) | go_keep) (first | (go_at_call 46; refine (IHk _ ?_).mono ?_; exact (by with_reducible repeat (first | exact Below.refl _ _ | assumption | refine Below.drew ?_ | refine qa1 ?_ _ | refine Below.alloc ?_ (by first | omega | simp <;> omega) _ | refine Below.setCell ?_ (by first | omega | simp <;> omega) _)); rintro e wC ⟨y, My, rfl, hsy, hslY, -, hbC, -⟩; have HSY := hid hsy; have HYC := hid hslY.2.2.2; clear hsy hslY; have sC := hbC.size; (try simp only [World.size_drew] at sC); have stC : Below wl.heap.size wl wC := (by refine Below.trans ?_ (hbC.mono ?_); exact (by with_reducible repeat (first | exact Below.refl _ _ | assumption | refine Below.drew ?_ | refine qa1 ?_ _ | refine Below.alloc ?_ (by first | omega | simp <;> omega) _ | refine Below.setCell ?_ (by first | omega | simp <;> omega) _)); (first | exact Nat.le_refl _ | (simp; done) | (simp; omega))); unfold qbz; have hblC : b < wC.heap.size := (by omega); have f0C := (stC.frozen (p := ⟨b, off + k * 5, none⟩) hbl).trans f0l; have f1C := (stC.frozen (p := ⟨b, off + k * 5 + 1, none⟩) hbl).trans f1l; have f2C := (stC.frozen (p := ⟨b, off + k * 5 + 2, none⟩) hbl).trans f2l; have f3C := (stC.frozen (p := ⟨b, off + k * 5 + 3, none⟩) hbl).trans f3l; have f4C := (stC.frozen (p := ⟨b, off + k * 5 + 4, none⟩) hbl).trans f4l; have d0C := (stC.cell (p := ⟨b, off + k * 5, none⟩) hbl).trans d0l; have d1C := (stC.cell (p := ⟨b, off + k * 5 + 1, none⟩) hbl).trans d1l; have d2C := (stC.cell (p := ⟨b, off + k * 5 + 2, none⟩) hbl).trans d2l; have d3C := (stC.cell (p := ⟨b, off + k * 5 + 3, none⟩) hbl).trans d3l; have d4C := (stC.cell (p := ⟨b, off + k * 5 + 4, none⟩) hbl).trans d4l)); all_goals
      have hR := qco hnb (off + k * 5) (.int .i64 y.kind) (.string y.key) (.string y.val) (.string y.tx) (.slice y.gA y.gn y.gc) |>.trans ((stC.block _ hn).trans HRl.out)
      have hS := qco (show w.heap.size + 1 ≠ b by omega) (off + k * 5) (.int .i64 y.kind) (.string y.key) (.string y.val) (.string y.tx) (.slice y.gA y.gn y.gc) |>.trans ((stC.block (w.heap.size + 1) (by omega)).trans HSl.out)
      have hO := ((HOl.out.below stC).setCall (i := k) (by omega) y); have hB := qba (HBl.out.trans (stC.mono (by omega))) (show w.heap.size ≤ b by omega) (off + k * 5) (.int .i64 y.kind) (.string y.key) (.string y.val) (.string y.tx) (.slice y.gA y.gn y.gc); have HR' := hid hR; have HS' := hid hS; have HO' := hid hO; have HB' := hid hB; clear hR hS hO hB d0C d1C d2C d3C d4C d0l d1l d2l d3l d4l; go_wp2_with fail; exact ⟨⟨k + 1, by omega, by go_num, ⟨M.set k y, by rw [List.length_set]; exact hML, HO'.out, (fun i hi => by rw [List.getElem?_set_ne (by omega)]; exact HG.out i (by omega)), fun i h1 h2 hi => by
       rw [List.length_set] at h1
       by_cases hik : k = i
       · subst hik
         rw [List.getElem_set_self]
         exact ⟨HSY.out, HYC.out⟩
       · rw [List.getElem_set_ne hik]
         exact HMS.out i h1 h2 (by omega)⟩, HR'.out, HS'.out, HB'.out, by simp only [World.size_setCell]; omega⟩, by simp [intOf]; omega⟩
   · obtain rfl : k = g.length := by omega
     have x0 := cell_of_row wr _ 0 _ _ _ hr0; have x1 := cell_of_row wr _ 1 _ _ _ hr0; have x2 := cell_of_row wr _ 2 _ _ _ hr0; have x3 := cell_of_row wr _ 3 _ _ _ hr0; have x4 := cell_of_row wr _ 4 _ _ _ hr0; have y0 := cell_of_row wr _ 0 _ _ _ hr1; have y1 := cell_of_row wr _ 1 _ _ _ hr1; have y2 := cell_of_row wr _ 2 _ _ _ hr1; have y3 := cell_of_row wr _ 3 _ _ _ hr1; have y4 := cell_of_row wr _ 4 _ _ _ hr1; have g0 := frozen_of_row wr _ 0 _ _ hr1; have g1 := frozen_of_row wr _ 1 _ _ hr1; have g2 := frozen_of_row wr _ 2 _ _ hr1; have g3 := frozen_of_row wr _ 3 _ _ hr1; have g4 := frozen_of_row wr _ 4 _ _ hr1; have hl1 : w.heap.size + 1 < wr.heap.size := by omega
     have hl2 : w.heap.size < wr.heap.size := by omega
     have HO := hid hO; have HMS := hid hMs; clear hr0 hr1 hO hMg hMs; go_wp2_with fail; refine bodyPost_ret (v := qbz ⟨kind, key, val, to', A, g.length, cc⟩) (by simp [results, results46, go_sem, qbz, y0, y1, y2, y3, y4]) rfl ⟨_, M, rfl, ⟨rfl, rfl, rfl, rfl, rfl⟩, ?_, ⟨hML, fun i h1 h2 => HMS.out i h1 h2 h2⟩, ?_, ?_⟩
     · have hlo1 : w.heap.size + 1 < w.heap.size + 2 := by omega
       exact ⟨(((((HO.out.setCell (p := ⟨w.heap.size + 1, 0, none⟩) hlo1 _).setCell (p := ⟨w.heap.size + 1, 1, none⟩) hlo1 _).setCell (p := ⟨w.heap.size + 1, 2, none⟩) hlo1 _).setCell (p := ⟨w.heap.size + 1, 3, none⟩) hlo1 _).setCell (p := ⟨w.heap.size + 1, 4, none⟩) hlo1 _).arr qa7.enc_len, hML.symm, by have := HO.out.len; omega, HO.out.max⟩
     · exact (by with_reducible repeat (first | exact Below.refl _ _ | assumption | refine Below.drew ?_ | refine qa1 ?_ _ | refine Below.alloc ?_ (by first | omega | simp <;> omega) _ | refine Below.setCell ?_ (by first | omega | simp <;> omega) _))
     · rcases HO.out.lt with h0 | ⟨x, off, hA, hx, _⟩
       · left
         have := HO.out.len; exact List.eq_nil_of_length_eq_zero (by omega)
       · exact .inr ⟨x, off, hA, by omega⟩
end
end Go.Proofs.YtecikkjbnkhhkaaGreat
