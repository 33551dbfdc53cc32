/- A part of the walk. -/
import Derived.Test.YtecikkjbnkhhkaaGreatP03
import Derived.StillTailTactics
namespace Go.Proofs.YtecikkjbnkhhkaaGreat
open _root_.Go.Proofs.Tryz
set_option maxHeartbeats 4000000
set_option maxRecDepth 100000
section
open Go.RowKit
theorem qct : (prog.info? 85).map (fun i => (i.zero, i.size, i.bytes)) = some (some qak.val, 5, 48) := by kernel_rfl
theorem qdv {ops : Array Oper} {rest : List Oper} {o : Oper} {a : Act} {Q : Exit → Act → World → Prop} (w : World) (hgd : o.guard = none) (s x : Operand)
 (ho : o.op = .call { callee := .builtin .append, args := #[s, x], argTypes := #[141, 141] }) {lo : Nat} {A : Option Addr} {c : Nat} {l : List qa3} (hs : a.eval s = .slice A l.length c) (own : Own qa3.enc 85 5 w lo A c l)
 {B : Nat} {A2 : Option Addr} {m : List qa3} (c2 : Nat) (hx : a.eval x = .slice A2 m.length c2) (arr : Arr qa3.enc 5 w B A2 m) (hb : l.length + m.length ≤ 1000000) (hlo : lo ≤ w.heap.size)
 (h : ∀ A' c' w', Own qa3.enc 85 5 w' lo A' c' (l ++ m) → w.grownBy w' (qa8 A c) → (A' = A ∧ c' = c ∨ ∃ g, A' = some ⟨g, 0, none⟩ ∧ w.heap.size ≤ g) → wpList prog ops Q rest (a.put o.dst (.slice A' (l.length + m.length) c')) w') :
 wpList prog ops Q (o :: rest) a w := by
 obtain ⟨i0, hi, hz0, hz1, hz2⟩ := info_parts qct; exact qar w hgd s x 141 ho i0 _ 48 underlying141 hi hz0 hz1 hz2 rfl (by decide) qa3.enc_len qa3.enc_one hs own c2 hx arr (by unfold maxLen; omega) (by omega) hlo h
theorem Own.notBox {α : Type} {enc : α → List Value} {e t : TypeId} {k : Nat} {w : World} {lo : Nat} {A : Option Addr} {c p : Nat} {l : List α} {z : Array Value} (own : Own enc e k w lo A c l) (hb : w.heap[p]? = some (.cells z t (0, 0))) (hne : e ≠ t) : some p ≠ qa8 A c := fun he => by
 unfold qa8 at he
 split at he
 · cases he
 · rename_i hc
   rcases own.2.2 with h0 | ⟨b, off, cur, rfl, -, hh, -⟩
   · exact hc h0
   · cases he
     rw [hh] at hb
     cases hb
     exact hne rfl
theorem qdu {w : World} {vb : Nat} {x : qa3} (hv : w.heap[vb]? = some (.cells x.enc.toArray 85 (0, 0))) : Arr qa3.enc 5 w w.heap.size (some ⟨vb, 0, none⟩) [x] := by
 refine Arr.of_cells qa3.enc_len ?_ fun j u hu => ?_
 · exact qa0 hv
 · rw [Nat.zero_add, cell_of_row w vb j _ _ _ hv, List.getElem?_toArray]
   simpa using hu
def qd4 (L : List qa3) (at' n : Nat) : List qa3 := (L.drop at' ++ L.take at').take n
theorem qbf {L : List qa3} {at' n : Nat} (h : n ≤ L.length) : (qd4 L at' n).length = n := by
 simp only [qd4, List.length_take, List.length_append, List.length_drop]; omega
theorem qe6 {L : List qa3} {at' n i : Nat} (h : n ≤ L.length) (ha : at' < L.length) (hi : i < n) : (qd4 L at' n)[i]'(by rw [qbf h]; exact hi) = L[(at' + i) % L.length]'(Nat.mod_lt _ (by omega)) := by
 simp only [qd4, List.getElem_take, List.getElem_append, List.length_drop, List.getElem_drop]; split
 · rename_i h1
   congr 1; rw [Nat.mod_eq_of_lt (by omega)]
 · rename_i h1
   congr 1; rw [Nat.mod_eq_sub_mod (by omega), Nat.mod_eq_of_lt (by omega)]; omega
theorem qq2 {L : List qa3} {at' n : Nat} (h : n < L.length) (ha : at' < L.length) (x : qa3) : qd4 (L.set ((at' + n) % L.length) x) at' (n + 1) = qd4 L at' n ++ [x] := by
 have hm : (at' + n) % L.length < L.length := Nat.mod_lt _ (by omega); apply List.ext_getElem
 · rw [qbf (by rw [List.length_set]; omega), List.length_append, qbf (by omega)]; rfl
 · intro i h1 h2
   rw [qbf (by rw [List.length_set]; omega)] at h1; rw [qe6 (by rw [List.length_set]; omega) (by rw [List.length_set]; omega) h1, List.getElem_append]; simp only [List.length_set, List.getElem_set]; by_cases hin : i < n
   · rw [dif_pos (by rw [qbf (by omega)]; exact hin), qe6 (by omega) ha hin, if_neg ?_]
     intro he; by_cases g1 : at' + n < L.length
     · rw [Nat.mod_eq_of_lt g1] at he
       rw [Nat.mod_eq_of_lt (by omega)] at he; omega
     · rw [Nat.mod_eq_sub_mod (by omega), Nat.mod_eq_of_lt (by omega)] at he
       by_cases g2 : at' + i < L.length
       · rw [Nat.mod_eq_of_lt g2] at he; omega
       · rw [Nat.mod_eq_sub_mod (by omega), Nat.mod_eq_of_lt (by omega)] at he; omega
   · obtain rfl : i = n := by omega
     rw [dif_neg (by rw [qbf (by omega)]; omega), if_pos rfl]; simp [qbf (show i ≤ L.length by omega)]
theorem qs0 {L : List qa3} {at' : Nat} (h : at' ≤ L.length) (x : qa3) : qd4 (L.drop at' ++ L.take at' ++ [x]) 0 (L.length + 1) = qd4 L at' L.length ++ [x] := by
 have hl : (L.drop at' ++ L.take at').length = L.length := by
  simp only [List.length_append, List.length_drop, List.length_take]; omega
 have h1 : (L.drop at' ++ L.take at' ++ [x]).length = L.length + 1 := by rw [List.length_append, hl]; rfl
 unfold qd4; rw [List.drop_zero, List.take_zero, List.append_nil, List.take_of_length_le (Nat.le_of_eq h1), List.take_of_length_le (Nat.le_of_eq hl)]
def qmi (w : World) (lo p : Nat) (A : Option Addr) (c : Nat) (Q : List qa3) : Prop := ∃ L at' n, qbo w lo p A c L at' n ∧ Q = qd4 L at' n
theorem qbo.keep {w w' : World} {lo p c at' n : Nat} {A : Option Addr} {L : List qa3} (h : qbo w lo p A c L at' n) (h1 : w'.heap[p]? = w.heap[p]?) (h2 : ∀ b, some b = qa8 A c → b < w.heap.size → w'.heap[b]? = w.heap[b]?) : qbo w' lo p A c L at' n := by
 refine ⟨h1.trans h.box, ?_, h.lo, h.fit, h.nil⟩; by_cases h0 : c = 0
 · exact ⟨h.rows.1, h.rows.2.1, .inl h0⟩
 · exact h.rows.keep fun b off hA _ hlt => h2 b (by rw [qa8, if_neg h0, hA]; rfl) hlt
def Ring (w : World) (p K : Nat) : Prop := ∀ A n c, w.cell? ⟨p, 0, none⟩ = some (.slice A n c) → n ≤ K
theorem Ring.of_box {w : World} {p K n c : Nat} {A : Option Addr} {u v : Value} {t : TypeId} (h : w.heap[p]? = some (.cells #[.slice A n c, u, v] t (0, 0))) (hn : n ≤ K) : Ring w p K := fun A' n' c' hc => by
 rw [cell_of_row w p 0 _ _ _ h] at hc
 cases hc
 exact hn
theorem Ring.len {w : World} {p K n c : Nat} {A : Option Addr} {u v : Value} {t : TypeId} (h : Ring w p K) (hb : w.heap[p]? = some (.cells #[.slice A n c, u, v] t (0, 0))) : n ≤ K := h A n c (cell_of_row w p 0 _ _ _ hb)
theorem Ring.same {w w' : World} {p K : Nat} (h : Ring w p K) (hb : w'.heap[p]? = w.heap[p]?) : Ring w' p K := fun A n c hc => h A n c (by rw [← hc]; exact (World.cell?_of_block (w := w) hb).symm)
structure qv1 (lo p : Nat) (A : Option Addr) (c : Nat) (Q : List qa3) (w w' : World) : Prop where
 q : ∃ A' c', qmi w' lo p A' c' Q ∧ (A' = A ∧ c' = c ∨ ∃ g off, A' = some ⟨g, off, none⟩ ∧ w.heap.size ≤ g)
 below : Below lo w w'
 keep : ∀ b, b < w.heap.size → b ≠ p → some b ≠ qa8 A c → w'.heap[b]? = w.heap[b]?
 ring : ∀ K, Ring w p K → Q.length ≤ K → Ring w' p K
def qff (lo p : Nat) (A : Option Addr) (c : Nat) (Q : List qa3) (w : World) (e : Ending) (w' : World) : Prop := e = .returned (.tuple #[]) ∧ qv1 lo p A c Q w w'
theorem box3 {w : World} {p : Nat} {t : TypeId} {a b c a' b' c' : Value} (h : w.heap[p]? = some (.cells #[a, b, c] t (0, 0))) : (((w.setCell ⟨p, 0, none⟩ a').setCell ⟨p, 1, none⟩ b').setCell ⟨p, 2, none⟩ c').heap[p]? = some (.cells #[a', b', c'] t (0, 0)) :=
 heap_setCell_same _ p 2 _ _ c' (heap_setCell_same _ p 1 _ _ b' (heap_setCell_same w p 0 _ _ a' h))
theorem qk7 (n : Nat) : (madeCells qak.val.cells (n * 5)).size = n * 5 := by rw [size_madeCells]
theorem qjx (w : World) (lo p : Nat) (A : Option Addr) (c : Nat) (L : List qa3) (at' : Nat) (x : qa3) (h : qbo w lo p A c L at' L.length) (hlow : lo ≤ w.heap.size) (hn : L.length ≤ 100000) : Calls prog 329 #[.pointer (some ⟨p, 0, none⟩), x.val] w (qff lo p A c (qd4 L at' L.length ++ [x]) w) := by
 have hp := qa0 h.box; have hat : at' ≤ L.length := by
  rcases h.fit.2 with h0 | h0
  · have := (h.nil (List.eq_nil_of_length_eq_zero h0)).2.2
    omega
  · omega
 have hlc : L.length ≤ c := h.rows.1; have hati : (at' : Int) ≤ (L.length : Int) := by omega
 have hatc : (at' : Int) ≤ (c : Int) := by omega
 have H := hid h; have HXV := hid (show x.val = .agg #[.string x.key, .int .u64 (x.id : Int), .int .u64 (x.ver : Int), .int .i64 x.line, .int .i64 x.cls] from rfl); obtain ⟨i0, hi, hz0, hz1, hz2⟩ := info_parts qct; have MK := fun W => run_make (P := prog) W 141 85 i0 _ underlying141 hi hz0 .i64 .i64 0 (2 * (L.length : Int) + 1) (by omega) (by omega) (by rw [hz2]; omega) (by omega)
 rw [hz1] at MK; simp only [Int.toNat_zero, show (2 * (L.length : Int) + 1).toNat = 2 * L.length + 1 by omega] at MK; clear hi hz0 hz1 hz2; rw [HXV.out]; go_enter func329, ntmps329; go_upto_region 1 with fail; generalize hw1 : World.alloc w _ = w1; have R1 : w1.heap[w.heap.size]? = some (.cells x.enc.toArray 85 (0, 0)) := by rw [← hw1]; exact (qa2 _ _ _).trans (if_pos rfl)
 have b1 : Below w.heap.size w w1 := by rw [← hw1]; exact (Below.refl _ _).alloc (Nat.le_refl _) _
 have HR1 := hid R1; have HB1 := hid b1; have H1 := hid (h.keep (b1.block p hp) (fun b _ hlt => b1.block b hlt)); have hp1 := qa0 H1.out.box; have p0 := cell_of_row w1 p 0 _ _ _ H1.out.box; have p1 := cell_of_row w1 p 1 _ _ _ H1.out.box; have p2 := cell_of_row w1 p 2 _ _ _ H1.out.box; have hl1 := qa0 R1; clear hw1 R1 b1; go_quiet (fail); go_upto_region 3 with fail; generalize hw2 : World.alloc _ _ = w2; have b2 : Below w1.heap.size w1 w2 := by rw [← hw2]; exact (qa1 (Below.refl _ _) _).alloc (Nat.le_refl _) _
 have O2 : Own qa3.enc 85 5 w2 w1.heap.size (some ⟨w1.heap.size, 0, none⟩) (2 * L.length + 1) [] := by
  refine ⟨by simp, by unfold maxLen; omega, .inr ⟨w1.heap.size, 0, madeCells qak.val.cells ((2 * L.length + 1) * 5), rfl, Nat.le_refl _, ?_, by rw [qk7]; omega, by simp⟩⟩; rw [← hw2]; exact (qa2 _ _ _).trans (if_pos rfl)
 have HB2 := hid b2; have HO2 := hid O2; have H2 := hid (H1.out.keep (b2.block p hp1) (fun b _ hlt => b2.block b hlt)); have hp2 := qa0 H2.out.box; clear p0 p1 p2; have p0 := cell_of_row w2 p 0 _ _ _ H2.out.box; have p1 := cell_of_row w2 p 1 _ _ _ H2.out.box; have p2 := cell_of_row w2 p 2 _ _ _ H2.out.box; clear hw2 b2 O2 MK; have hdl : (L.drop at').length = L.length - at' := List.length_drop; have htl : (L.take at').length = at' := by rw [List.length_take]; omega
 go_cut [4] (fun v4 wx => ∃ A3 c3, v4 = .slice A3 (L.drop at').length c3 ∧ Own qa3.enc 85 5 wx w1.heap.size A3 c3 (L.drop at') ∧ Below w1.heap.size w1 wx)
 case first =>
  go_still_tail 10, (by kernel_rfl); by_cases hca : c = at'
  case pos =>
   have hd : L.drop at' = [] := List.drop_of_length_le (by omega); have ARR : ∀ W B A2, Arr qa3.enc 5 W B A2 (L.drop at') := fun W B A2 => by rw [hd]; exact Arr.nil
   go_wp2_with (at_builtin; refine qdv (l := []) (m := L.drop at') (A := some ⟨w1.heap.size, 0, none⟩) (c := 2 * L.length + 1) (lo := w1.heap.size) _ rfl (.tmp 22) (.tmp 31) rfl (by simp [Act.eval]) HO2.out.drew (B := w2.heap.size) (A2 := A) (c - at') (by simp [Act.eval, hca]) (ARR _ _ _) (by simp; omega) HB2.out.size ?_; intro A3 c3 w3 hown3 hgr3 hloc3); have b3 : Below w1.heap.size w1 w3 := qck HO2.out.drew hgr3 HB2.out.drew HB2.out.size; go_meet; exact ⟨A3, c3, by simp [hd], hown3, b3⟩
  case neg =>
   have ARR := (H2.out.rows.arr qa3.enc_len).drop (m := at') (c := c) (by omega) hlc; rw [if_neg hca] at ARR; go_wp2_with (at_builtin; refine qdv (l := []) (m := L.drop at') (A := some ⟨w1.heap.size, 0, none⟩) (c := 2 * L.length + 1) (lo := w1.heap.size) _ rfl (.tmp 22) (.tmp 31) rfl (by simp [Act.eval]) HO2.out.drew (B := w2.heap.size) (A2 := A.map (·.add (at' * 5))) (c - at') (by simp [Act.eval, hca]) ARR (by simp; omega) HB2.out.size ?_; intro A3 c3 w3 hown3 hgr3 hloc3); have b3 : Below w1.heap.size w1 w3 := qck HO2.out.drew hgr3 HB2.out.drew HB2.out.size; go_meet; exact ⟨A3, c3, by simp [hdl], hown3, b3⟩
 case rest =>
  obtain ⟨A3, c3, rfl, hown3, b3⟩ := hcut; obtain ⟨w3, hw3⟩ : ∃ x, x = wc := ⟨_, rfl⟩; subst hw3; have HO3 := hid hown3; have HB3 := hid b3; have H3 := hid (H1.out.keep (b3.block p hp1) (fun b _ hlt => b3.block b hlt)); have hp3 := qa0 H3.out.box; clear p0 p1 p2 hp2 HO2 H2 HB2 hown3 b3; have p0 := cell_of_row w3 p 0 _ _ _ H3.out.box; have p1 := cell_of_row w3 p 1 _ _ _ H3.out.box; have p2 := cell_of_row w3 p 2 _ _ _ H3.out.box; obtain ⟨M, hM⟩ : ∃ M, M = L.drop at' ++ L.take at' := ⟨_, rfl⟩; have hlen : M.length = L.length := by rw [hM, List.length_append, hdl, htl, Nat.sub_add_cancel hat]
  have HM := hid hM; have HLEN := hid hlen; clear hM hlen; go_upto_region 4 with fail; go_cut [4] (fun v4 wx => ∃ A4 c4, v4 = .slice A4 M.length c4 ∧ Own qa3.enc 85 5 wx w1.heap.size A4 c4 M ∧ Below w1.heap.size w1 wx)
  case first =>
   have ARR := (H3.out.rows.arr qa3.enc_len).take at'; go_still_tail 10, (by kernel_rfl); go_wp2_with (at_builtin; refine qdv (l := L.drop at') (m := L.take at') (A := A3) (c := c3) (lo := w1.heap.size) _ rfl (.tmp 33) (.tmp 42) rfl (by simp [Act.eval]) HO3.out.drew (B := w3.heap.size) (A2 := A) c (by simp [Act.eval, htl]) ARR (by simp; omega) HB3.out.size ?_; intro A4 c4 w4 hown4 hgr4 hloc4); have b4 : Below w1.heap.size w1 w4 := qck HO3.out.drew hgr4 HB3.out.drew HB3.out.size; go_meet; exact ⟨A4, c4, by rw [HLEN.out], HM.out ▸ hown4, b4⟩
  case rest =>
   obtain ⟨A4, c4, rfl, hown4, b4⟩ := hcut; obtain ⟨w4, hw4⟩ : ∃ x, x = wc := ⟨_, rfl⟩; subst hw4; have HO4 := hid hown4; have HB4 := hid b4; have H4 := hid (H1.out.keep (b4.block p hp1) (fun b _ hlt => b4.block b hlt)); have R4 := (b4.block _ hl1).trans HR1.out; have hp4 := qa0 H4.out.box; have hl4 := qa0 R4; clear p0 p1 p2 hp3 HO3 H3 HB3 hown4 b4; have r0 := cell_of_row w4 _ 0 _ _ _ R4; have r1 := cell_of_row w4 _ 1 _ _ _ R4; have r2 := cell_of_row w4 _ 2 _ _ _ R4; have r3 := cell_of_row w4 _ 3 _ _ _ R4; have r4 := cell_of_row w4 _ 4 _ _ _ R4; simp only [qa3.enc, List.getElem?_toArray, List.getElem?_cons_zero, List.getElem?_cons_succ] at r0 r1 r2 r3 r4; clear hdl htl hlc hati hatc; go_wp2_with (at_builtin; refine qdv (l := M) (m := [x]) (A := A4) (c := c4) (lo := w1.heap.size) _ rfl (.tmp 46) (.tmp 48) rfl (by simp [Act.eval]) (HO4.out.alloc _) (A2 := some ⟨w4.heap.size, 0, none⟩) 1 (by simp [Act.eval]) (qdu (x := x) ((qa2 _ _ _).trans (if_pos rfl))) (by rw [HLEN.out]; simp; omega) (by have := HB4.out.size; simp; omega) ?_; intro A5 c5 w5 hown5 hgr5 hloc5; have b5 : Below w1.heap.size w1 w5 := qck (HO4.out.alloc _) hgr5 (HB4.out.alloc HB4.out.size _) (by have := HB4.out.size; simp; omega); have H5 := hid (H1.out.keep (b5.block p hp1) (fun b _ hlt => b5.block b hlt)); have hp5 := qa0 H5.out.box; have p0 := cell_of_row w5 p 0 _ _ _ H5.out.box; have p1 := cell_of_row w5 p 1 _ _ _ H5.out.box; have p2 := cell_of_row w5 p 2 _ _ _ H5.out.box; have f0 := frozen_of_row w5 p 0 _ _ H5.out.box; have f1 := frozen_of_row w5 p 1 _ _ H5.out.box; have f2 := frozen_of_row w5 p 2 _ _ H5.out.box; have HO5 := hid hown5; have HB5 := hid b5; clear hown5 hgr5 hloc5 b5); have hs1 := HB1.out.size; refine bodyPost_ret (v := .tuple #[]) (by simp [results, results329]) rfl ⟨rfl, ⟨⟨A5, c5, ⟨M ++ [x], 0, L.length + 1, ⟨by rw [List.length_append]; exact box3 H5.out.box, ?_, h.lo, by rw [List.length_append, HLEN.out]; simp, by simp⟩, ?_⟩, ?_⟩, ?_, fun b hb hbp _ => ?_, fun K _ hK => Ring.of_box (box3 H5.out.box) ?_⟩⟩
   · exact (((HO5.out.setCell hp1 _).setCell hp1 _).setCell hp1 _).lower (Nat.le_trans hlow hs1)
   · rw [HM.out]
     exact (qs0 hat x).symm
   · rcases HO5.out.lt with h0 | ⟨b, off, hA, hB, -⟩
     · have := HO5.out.len
       rw [List.length_append, h0] at this; simp at this
     · exact .inr ⟨b, off, hA, Nat.le_trans hs1 hB⟩
   · exact ((((HB1.out.trans (HB5.out.mono hs1)).mono hlow).setCell h.lo _).setCell h.lo _).setCell h.lo _
   · rw [Below.heap_setCell _ _ _ _ hbp, Below.heap_setCell _ _ _ _ hbp, Below.heap_setCell _ _ _ _ hbp, HB5.out.block b (Nat.lt_of_lt_of_le hb hs1), HB1.out.block b hb]
   · rw [List.length_append, qbf (Nat.le_refl _)] at hK
     rw [HLEN.out]; exact hK
end
section
open Go.RowKit
theorem qka {a b c : World} {row : Option Nat} (h : a.grownBy b row) (k : b.grownBy c row) : a.grownBy c row :=
 ⟨k.os.trans h.os, k.tape.trans h.tape, k.output.trans h.output, Nat.le_trans h.size k.size, fun i hi hn => (k.block i (Nat.lt_of_lt_of_le hi h.size) hn).trans (h.block i hi hn)⟩
def qd1 (lo : Nat) (A : Option Addr) (c : Nat) (l : List qa3) (i : Nat) (x : qa3) (w : World) (e : Ending) (w' : World) : Prop :=
 ∃ A' c', e = .returned (.slice A' (l.length + 1) c') ∧ Own qa3.enc 85 5 w' lo A' c' (ins l i x) ∧ w.grownBy w' (qa8 A c) ∧ (A' = A ∧ c' = c ∨ ∃ g, A' = some ⟨g, 0, none⟩ ∧ w.heap.size ≤ g)
theorem qni (l : List qa3) (A : Option Addr) (c lo vb : Nat) (x : qa3) (w : World) (own : Own qa3.enc 85 5 w lo A c l) (hv : w.heap[vb]? = some (.cells x.enc.toArray 85 (0, 0))) (hlo : lo ≤ w.heap.size) (hl : l.length ≤ 100000) :
 Calls prog 327 #[.slice A l.length c, .int .i64 l.length, .slice (some ⟨vb, 0, none⟩) 1 1] w (qd1 lo A c l l.length x w) := by
 have harr := hid (qdu hv); have hc := own.len; have hm := own.max; have H := hid own; clear own hv; by_cases hcl : c = l.length
 · subst hcl
   go_enter func327, ntmps327; go_wp2_with (at_builtin; refine qdv (l := l) (m := [x]) _ rfl (.tmp 23) (.tmp 24) rfl rfl H.out 1 rfl harr.out (by simp; omega) hlo ?_; intro A' c' w' hown hgr hloc); go_ret; exact ⟨A', c', rfl, by simpa [ins] using hown, hgr, hloc⟩
 · go_enter func327, ntmps327
   go_wp2_with (at_builtin; refine qdv (l := l) (m := [x]) _ rfl (.tmp 23) (.tmp 24) rfl rfl H.out 1 rfl harr.out (by simp; omega) hlo ?_; intro A' c' w' hown hgr hloc); go_ret; exact ⟨A', c', rfl, by simpa [ins] using hown, hgr, hloc⟩
theorem qk8 (l : List qa3) (b off c lo vb i : Nat) (x : qa3) (w : World) (own : Own qa3.enc 85 5 w lo (some ⟨b, off, none⟩) c l) (hv : w.heap[vb]? = some (.cells x.enc.toArray 85 (0, 0))) (hl : l.length ≤ 100000)
 (hi : i < l.length) (hroom : l.length + 1 ≤ c) (hne : vb ≠ b) :
 Calls prog 327 #[.slice (some ⟨b, off, none⟩) l.length c, .int .i64 i, .slice (some ⟨vb, 0, none⟩) 1 1] w (qd1 lo (some ⟨b, off, none⟩) c l i x w) := by
 obtain ⟨i0, hi0, hz0, hz1, hz2⟩ := info_parts qct; have hmax := own.max; obtain ⟨b', off', cur, hA, hlob, hh, hs, hcell⟩ : ∃ b' off' cur, (some (⟨b, off, none⟩ : Addr)) = some ⟨b', off', none⟩ ∧ lo ≤ b' ∧ w.heap[b']? = some (.cells cur 85 (0, 0)) ∧ off' + c * 5 ≤ cur.size ∧ ∀ j (u : Value), (l.flatMap qa3.enc)[j]? = some u → cur[off' + j]? = some u := by
  rcases own.2.2 with h0 | h
  · omega
  · exact h
 cases hA
 have hcm := own.2.1; have hfl : (l.flatMap qa3.enc).length = l.length * 5 := qao qa3.enc_len l; have hone : ∀ u ∈ l.flatMap qa3.enc, u.oneCell' = true := fun u hu => by
  obtain ⟨y, _, hy⟩ := List.mem_flatMap.1 hu; exact qa3.enc_one y u hy
 obtain ⟨cur1, g1, g2, g3, g4, g5⟩ := qax ((l.flatMap qa3.enc).drop (i * 5)) (off + (i + 1) * 5) w.drew cur hh (by rw [List.length_drop, hfl]; omega); obtain ⟨W1, hW1⟩ : ∃ W1, W1 = w.drew.setCells b (off + (i + 1) * 5) ((l.flatMap qa3.enc).drop (i * 5)) := ⟨_, rfl⟩; rw [← hW1] at g1; obtain ⟨cur2, q1, q2, q3, q4, q5⟩ := qax x.enc (off + i * 5) W1 cur1 g1 (by rw [qa3.enc_len, g2]; omega); have hgr : w.grownBy W1 (some b) := by
  have := qb4 b ((l.flatMap qa3.enc).drop (i * 5)) (off + (i + 1) * 5) w.drew; rw [← hW1] at this; exact ⟨this.os, this.tape, this.output, this.size, this.block⟩
 have hgr2 := qb4 b x.enc (off + i * 5) W1; have hW1v : W1.heap[vb]? = some (.cells x.enc.toArray 85 (0, 0)) := by
  rw [hW1, qaa b _ _ _ vb hne]; exact hv
 have hcp1 : ∀ ty dc sc, (Builtin.copy_ #[141, 141] ty #[.slice (some ⟨b, off + (i + 1) * 5, none⟩) (l.length - i) dc, .slice (some ⟨b, off + i * 5, none⟩) (l.length + 1 - i) sc]).run prog w.drew = .ok (goInt (Nat.min (l.length + 1 - i) (l.length - i))) W1 := fun ty dc sc => by
  rw [hW1]; refine qcn w.drew _ _ ty 85 i0 b _ _ dc ⟨b, off + i * 5, none⟩ _ sc _ underlying141 hi0 ?_ ?_ ?_ ?_ (fun u hu => hone u (List.mem_of_mem_drop hu))
  · rw [List.length_drop, hfl, hz1]; simp only [Nat.min_def]; split <;> omega
  · intro j u hu
    rw [Addr.add_lit]; show w.cell? _ = _
    rw [cell_of_row w b _ _ _ _ hh, Nat.add_assoc]; exact hcell _ u (by rwa [List.getElem?_drop] at hu)
  · intro j hj
    rw [List.length_drop, hfl] at hj; show (w.cell? _).isSome = true
    rw [cell_of_row w b _ _ _ _ hh, Array.getElem?_eq_getElem (by omega)]; rfl
  · intro j _
    exact frozen_of_row w b _ _ _ hh
 have hcp2 : ∀ ty dc, (Builtin.copy_ #[141, 141] ty #[.slice (some ⟨b, off + i * 5, none⟩) (l.length + 1 - i) dc, .slice (some ⟨vb, 0, none⟩) 1 1]).run prog W1 = .ok (goInt (Nat.min 1 (l.length + 1 - i))) (W1.setCells b (off + i * 5) x.enc) := fun ty dc => by
  refine qcn W1 _ _ ty 85 i0 b _ _ dc ⟨vb, 0, none⟩ _ 1 _ underlying141 hi0 ?_ ?_ ?_ ?_ (qa3.enc_one x)
  · rw [qa3.enc_len, hz1]; simp only [Nat.min_def]; split <;> omega
  · intro j u hu
    rw [Addr.add_lit, Nat.zero_add, cell_of_row W1 vb _ _ _ _ hW1v]; simpa using hu
  · intro j hj
    rw [qa3.enc_len] at hj; rw [cell_of_row W1 b _ _ _ _ g1, Array.getElem?_eq_getElem (by omega)]; rfl
  · intro j _
    exact frozen_of_row W1 b _ _ _ g1
 have hov : ∀ lb cb, (callFunc 355 #[.slice (some ⟨vb, 0, none⟩) 1 1, .slice (some ⟨b, off + (i + 1) * 5, none⟩) lb cb]).run prog w = .ok (.value (.bool false)) w := fun lb cb => by
  rw [run_callFunc_extern func355 (by kernel_rfl) (by kernel_rfl) (by kernel_rfl) (e := Extern.SlicesOverlaps.overlaps #[141, 141] #[4]) (by kernel_rfl),
   Lib.run_overlaps_apart w 141 4 85 underlying141 5 (fun _ => by kernel_rfl) ⟨vb, 0, none⟩ ⟨b, off + (i + 1) * 5, none⟩ 1 1 lb cb hne 85 85 5 cur.size
    (by simp [World.shape?, hv, qa3.enc_len]) (by simp [World.shape?, hh]) (by omega) (frozen_of_row w vb _ _ _ hv) (frozen_of_row w vb _ _ _ hv)]
  rfl
 have hfin : Own qa3.enc 85 5 (W1.setCells b (off + i * 5) x.enc) lo (some ⟨b, off, none⟩) c (ins l i x) := by
  refine ⟨by rw [qfx l i x (by omega)]; exact hroom, hcm, .inr ⟨b, off, cur2, rfl, hlob, q1, by rw [q2, g2]; exact hs, qln qa3.enc_len (by omega) (fun j u hu => ?_) (fun j u hu => ?_) (fun j u hu => ?_)⟩⟩
  · have hj : j < i * 5 := by
     have := (List.getElem?_eq_some_iff.1 hu).1; rw [List.length_take] at this; omega
    rw [q3 _ (by omega), g3 _ (by omega)]; rw [List.getElem?_take_of_lt hj] at hu; exact hcell j u hu
  · rw [← Nat.add_assoc]
    exact q5 j u hu
  · rw [q4 _ (by rw [qa3.enc_len]; omega)]
    have := g5 j u hu; rwa [Nat.add_assoc] at this
 have HOV := hid hov; have HCP1 := hid hcp1; have HCP2 := hid hcp2; have HF := hid hfin; have HG := hid (show w.grownBy _ (qa8 (some ⟨b, off, none⟩) c) from (by rw [qa8, if_neg (by omega)]; exact qka hgr hgr2)); clear hov hcp1 hcp2 hfin hgr hgr2 hW1v hW1 hone hcell hh g1 g3 g4 g5 q1 q3 q4 q5 hi0 hz0 hz1 hz2 hv own hfl g2 q2 hs hcm; have hz1 : ¬ ((i : Int) = (l.length : Int)) := by omega
 have hw1 : IntKind.i64.wrap ((i : Int) + 1) = (i : Int) + 1 := by rw [IntKind.wrap_i64]; omega
 have hb1 : (0 : Int) ≤ (i : Int) + 1 := by omega
 have hin : i ≤ l.length := by omega
 have htn : ((i : Int) + 1).toNat = i + 1 := by omega
 have hb2 : ¬ (c = i + 1) := by omega
 have hb3 : (i : Int) + 1 ≤ (l.length : Int) + 1 := by omega
 have hb4 : ¬ (c = i) := by omega
 have hb5 : (i : Int) ≤ (l.length : Int) + 1 := by omega
 go_enter func327, ntmps327; go_wp2_with (simp only [HOV.out]); go_region_law (refine qge rfl (.tmp 73) (.tmp 76) 141 141 rfl (.slice (some ⟨b, off + (i + 1) * 5, none⟩) (l.length - i) (c - (i + 1))) (.slice (some ⟨b, off + i * 5, none⟩) (l.length + 1 - i) (c - i)) (by simp [Act.eval, Act.put]) (by simp [Act.eval, Act.put]) (HCP1.out _ _ _) ?_); all_goals go_wp2_with (refine qbp _ rfl (.tmp 80) (.tmp 81) 141 141 rfl (.slice (some ⟨b, off + i * 5, none⟩) (l.length + 1 - i) (c - i)) (.slice (some ⟨vb, 0, none⟩) 1 1) (by simp [Act.eval]) (by simp [Act.eval]) (HCP2.out _ _) ?_)
 all_goals go_ret
 all_goals exact ⟨_, c, rfl, HF.out, HG.out, .inl ⟨rfl, rfl⟩⟩
theorem qlm (l : List qa3) (b off c lo vb i : Nat) (x : qa3) (w : World) (own : Own qa3.enc 85 5 w lo (some ⟨b, off, none⟩) c l) (hv : w.heap[vb]? = some (.cells x.enc.toArray 85 (0, 0))) (hlo : lo ≤ w.heap.size) (hl : l.length ≤ 100000)
 (hi : i < l.length) (hroom : c < l.length + 1) :
 Calls prog 327 #[.slice (some ⟨b, off, none⟩) l.length c, .int .i64 i, .slice (some ⟨vb, 0, none⟩) 1 1] w (qd1 lo (some ⟨b, off, none⟩) c l i x w) := by
 obtain ⟨i0, hi0, hz0, hz1, hz2⟩ := info_parts qct; have hmax := own.max; have hlen := own.len; obtain ⟨b', off', cur, hA, hlob, hh, hs, hcell⟩ : ∃ b' off' cur, (some (⟨b, off, none⟩ : Addr)) = some ⟨b', off', none⟩ ∧ lo ≤ b' ∧ w.heap[b']? = some (.cells cur 85 (0, 0)) ∧ off' + c * 5 ≤ cur.size ∧ ∀ j (u : Value), (l.flatMap qa3.enc)[j]? = some u → cur[off' + j]? = some u := by
  rcases own.2.2 with h0 | h
  · omega
  · exact h
 cases hA
 have hfl : (l.flatMap qa3.enc).length = l.length * 5 := qao qa3.enc_len l; have hone : ∀ u ∈ l.flatMap qa3.enc, u.oneCell' = true := fun u hu => by
  obtain ⟨y, _, hy⟩ := List.mem_flatMap.1 hu; exact qa3.enc_one y u hy
 have hbw : b < w.heap.size := by
  rcases Nat.lt_or_ge b w.heap.size with h | h
  · exact h
  · rw [Array.getElem?_eq_none h] at hh; cases hh
 have hvw : vb < w.heap.size := by
  rcases Nat.lt_or_ge vb w.heap.size with h | h
  · exact h
  · rw [Array.getElem?_eq_none h] at hv; cases hv
 have hik : i + (l.length + 1 - i) = l.length + 1 := by omega
 have hkk : (l.length : Int) + 1 - (i : Int) = ((l.length + 1 - i : Nat) : Int) := by omega
 have hold : (Builtin.firstCells i0.size i (.slice (some ⟨b, off, none⟩) i c)).run prog w.drew = .ok ((l.flatMap qa3.enc).take (i * 5)).toArray w.drew := by
  rw [hz1]; exact run_firstCells_some w.drew 5 i ⟨b, off, none⟩ i c _ (by rw [List.length_take, hfl]; omega) (fun j v hj => by
   rw [Addr.add_lit]
   show w.cell? _ = _
   rw [cell_of_row w b _ _ _ _ hh]
   rw [List.getElem?_take] at hj
   split at hj
   · exact hcell j v hj
   · cases hj)
 obtain ⟨G, hG⟩ : ∃ G, G = grownCap w (l.length + 1) c 85 := ⟨_, rfl⟩; obtain ⟨ROW, hROW⟩ : ∃ ROW : Array Value, ROW = ((l.flatMap qa3.enc).take (i * 5)).toArray ++ Builtin.zeroCells (Value.cells (.agg #[.string ByteArray.empty, .int .u64 0, .int .u64 0, .int .i64 0, .int .i64 0])) (l.length + 1 - i) ++ Builtin.zeroCells (Value.cells (.agg #[.string ByteArray.empty, .int .u64 0, .int .u64 0, .int .i64 0, .int .i64 0])) (G - (l.length + 1)) := ⟨_, rfl⟩; obtain ⟨W0, hW0⟩ : ∃ W0, W0 = w.drew.alloc (.cells ROW 85) := ⟨_, rfl⟩; have hrz : ∀ ty, (Builtin.append_ #[141, 3] ty #[.slice (some ⟨b, off, none⟩) i c, .int .i64 ((l.length : Int) + 1 - (i : Int))]).run prog w = .ok (.slice (some ⟨w.heap.size, 0, none⟩) (l.length + 1) G) W0 := fun ty => by
  have h := Lib.run_append_grow_zeros w 141 3 ty 85 i0 _ .i64 .i64 underlying141 underlying3 hi0 hz0 (some ⟨b, off, none⟩) i c _ hold (l.length + 1 - i) (by omega) (by rw [hz1]; omega) (by omega) (by omega) (by rw [hz2]; omega) (by rw [hz2, hik]; exact growslice_fits hroom (by omega)); rw [hik] at h; rw [hkk, hW0, hROW, hG]; exact h
 have hGn : l.length + 1 ≤ G := by rw [hG]; exact grownCap_ge w _ _ _
 have hGm : G ≤ maxLen := by
  rw [hG]; exact grownCap_le_maxLen w (l.length + 1) c 85 (by unfold maxLen; omega)
 have hG63 : G ≤ 9223372036854775807 := by
  have := hGm; unfold maxLen at this; omega
 have hRsz : ROW.size = G * 5 := by
  rw [hROW]; simp [Builtin.zeroCells, Value.cells, hfl]; omega
 have hRtake : ∀ j u, ((l.flatMap qa3.enc).take (i * 5))[j]? = some u → ROW[0 + j]? = some u := fun j u hu => by
  have hj := (List.getElem?_eq_some_iff.1 hu).1; rw [hROW, Nat.zero_add, Array.append_assoc, Array.getElem?_append_left (by simpa using hj)]; simpa using hu
 have hsz0 : w.heap.size < W0.heap.size := by rw [hW0]; simp [World.alloc]
 have hW0N : W0.heap[w.heap.size]? = some (.cells ROW 85 (0, 0)) := by
  rw [hW0]; show (w.drew.heap.push _)[w.drew.heap.size]? = _
  exact Array.getElem?_push_size
 have hW0o : ∀ j, j < w.heap.size → W0.heap[j]? = w.heap[j]? := fun j hj => by rw [hW0]; exact Below.heap_alloc w.drew _ j hj
 have hgr0 : w.grownBy W0 (some b) := ⟨by rw [hW0]; rfl, by rw [hW0]; rfl, by rw [hW0]; rfl, Nat.le_of_lt hsz0, fun j hj _ => hW0o j hj⟩; obtain ⟨cur1, g1, g2, g3, g4, g5⟩ := qax x.enc (0 + i * 5) W0 ROW hW0N (by rw [qa3.enc_len, hRsz]; omega); obtain ⟨W1, hW1⟩ : ∃ W1, W1 = W0.setCells w.heap.size (0 + i * 5) x.enc := ⟨_, rfl⟩; rw [← hW1] at g1; have hgr1 : W0.grownBy W1 (some w.heap.size) := by rw [hW1]; exact qb4 w.heap.size x.enc (0 + i * 5) W0
 obtain ⟨cur2, q1, q2, q3, q4, q5⟩ := qax ((l.flatMap qa3.enc).drop (i * 5)) (0 + (i + 1) * 5) W1.drew cur1 g1 (by rw [List.length_drop, hfl, g2, hRsz]; omega); obtain ⟨W2, hW2⟩ : ∃ W2, W2 = W1.drew.setCells w.heap.size (0 + (i + 1) * 5) ((l.flatMap qa3.enc).drop (i * 5)) := ⟨_, rfl⟩; rw [← hW2] at q1; have hgr2 : W1.grownBy W2 (some w.heap.size) := by
  have := qb4 w.heap.size ((l.flatMap qa3.enc).drop (i * 5)) (0 + (i + 1) * 5) W1.drew; rw [← hW2] at this; exact ⟨this.os, this.tape, this.output, this.size, this.block⟩
 have hcp1 : ∀ ty dc, (Builtin.copy_ #[141, 141] ty #[.slice (some ⟨w.heap.size, 0 + i * 5, none⟩) (l.length + 1 - i) dc, .slice (some ⟨vb, 0, none⟩) 1 1]).run prog W0 = .ok (goInt (Nat.min 1 (l.length + 1 - i))) W1 := fun ty dc => by
  rw [hW1]; refine qcn W0 _ _ ty 85 i0 w.heap.size _ _ dc ⟨vb, 0, none⟩ _ 1 _ underlying141 hi0 ?_ ?_ ?_ ?_ (qa3.enc_one x)
  · rw [qa3.enc_len, hz1]; simp only [Nat.min_def]; split <;> omega
  · intro j u hu
    rw [Addr.add_lit, Nat.zero_add, cell_of_row W0 vb _ _ _ _ ((hW0o vb hvw).trans hv)]; simpa using hu
  · intro j hj
    rw [qa3.enc_len] at hj; rw [cell_of_row W0 _ _ _ _ _ hW0N, Array.getElem?_eq_getElem (by omega)]; rfl
  · intro j _
    exact frozen_of_row W0 _ _ _ _ hW0N
 have hcp2 : ∀ ty dc sc, (Builtin.copy_ #[141, 141] ty #[.slice (some ⟨w.heap.size, 0 + (i + 1) * 5, none⟩) (l.length - i) dc, .slice (some ⟨b, off + i * 5, none⟩) (l.length - i) sc]).run prog W1.drew = .ok (goInt (Nat.min (l.length - i) (l.length - i))) W2 := fun ty dc sc => by
  rw [hW2]; have hbN : b ≠ w.heap.size := by omega
  have hhb : W1.drew.heap[b]? = some (.cells cur 85 (0, 0)) := by
   show W1.heap[b]? = _
   rw [hW1, qaa _ _ _ _ b hbN, hW0o b hbw]; exact hh
  refine qcn W1.drew _ _ ty 85 i0 w.heap.size _ _ dc ⟨b, off + i * 5, none⟩ _ sc _ underlying141 hi0 ?_ ?_ ?_ ?_ (fun u hu => hone u (List.mem_of_mem_drop hu))
  · rw [List.length_drop, hfl, hz1]; simp only [Nat.min_def]; split <;> omega
  · intro j u hu
    rw [Addr.add_lit]; rw [cell_of_row W1.drew b _ _ _ _ hhb, Nat.add_assoc]; exact hcell _ u (by rwa [List.getElem?_drop] at hu)
  · intro j hj
    rw [List.length_drop, hfl] at hj; rw [cell_of_row W1.drew _ _ _ _ _ g1, Array.getElem?_eq_getElem (by omega)]; rfl
  · intro j _
    exact frozen_of_row W1.drew _ _ _ _ g1
 have hfin : Own qa3.enc 85 5 W2 lo (some ⟨w.heap.size, 0, none⟩) G (ins l i x) := by
  refine ⟨by rw [qfx l i x (by omega)]; exact hGn, hGm, .inr ⟨w.heap.size, 0, cur2, rfl, hlo, q1, by omega, qln qa3.enc_len (by omega) (fun j u hu => ?_) (fun j u hu => ?_) (fun j u hu => ?_)⟩⟩
  · have hj : j < i * 5 := by
     have := (List.getElem?_eq_some_iff.1 hu).1; rw [List.length_take] at this; omega
    rw [q3 _ (by omega), g3 _ (by omega)]; exact hRtake j u hu
  · have hj := (List.getElem?_eq_some_iff.1 hu).1
    rw [qa3.enc_len] at hj; rw [q3 _ (by omega), ← Nat.add_assoc]; exact g5 j u hu
  · have := q5 j u hu
    rwa [Nat.add_assoc] at this
 have hgrf : w.grownBy W2 (some b) := ⟨(hgr2.os.trans hgr1.os).trans hgr0.os, (hgr2.tape.trans hgr1.tape).trans hgr0.tape, (hgr2.output.trans hgr1.output).trans hgr0.output, Nat.le_trans hgr0.size (Nat.le_trans hgr1.size hgr2.size),
  fun j hj _ => ((hgr2.block j (by have := hgr1.size; omega) (by simp; omega)).trans (hgr1.block j (by omega) (by simp; omega))).trans (hW0o j hj)⟩
 have HRZ := hid hrz; have HCP1 := hid hcp1; have HCP2 := hid hcp2; have HF := hid hfin; have HG := hid (show w.grownBy W2 (qa8 (some ⟨b, off, none⟩) c) from (by rw [qa8, if_neg (by omega)]; exact hgrf)); obtain ⟨N, hN⟩ : ∃ N, N = w.heap.size := ⟨_, rfl⟩; rw [← hN] at HRZ HCP1 HCP2 HF; have HN := hid hN; clear hfin hgrf hcp1 hcp2 hrz hgr2 hW2 q1 q2 q3 q4 q5 hgr1 hW1 g1 g2 g3 g4 g5 hgr0 hW0o hW0N hsz0 hRtake hRsz hGm hW0 hROW hG hold hik hvw hone hfl hcell hs hh hlob hi0 hz0 hz1 hz2 own hv hN hkk; simp only [Nat.zero_add] at HCP1 HCP2; have hz1 : ¬ ((i : Int) = (l.length : Int)) := by omega
 have hz3 : (c : Int) < (l.length : Int) + 1 := by omega
 have hw1 : IntKind.i64.wrap ((i : Int) + 1) = (i : Int) + 1 := by rw [IntKind.wrap_i64]; omega
 have hb1 : (0 : Int) ≤ (i : Int) + 1 := by omega
 have hin : i ≤ l.length := by omega
 have htn : ((i : Int) + 1).toNat = i + 1 := by omega
 have hGi : ¬ (G = i) := by omega
 have hGim : ¬ (G = i + 1) := by omega
 have hci : ¬ (c = i) := by omega
 have hb3 : (i : Int) ≤ (l.length : Int) := by omega
 go_enter func327, ntmps327; go_wp2_with (first
  | (at_builtin; refine Lib.wpList_append_run _ rfl _ _ _ _ rfl _ _ rfl rfl _ _ (HRZ.out _) ?_)
  | (refine qbp _ rfl (.tmp 43) (.tmp 44) 141 141 rfl (.slice (some ⟨N, i * 5, none⟩) (l.length + 1 - i) (G - i)) (.slice (some ⟨vb, 0, none⟩) 1 1) (by simp [Act.eval]) (by simp [Act.eval]) (HCP1.out _ _) ?_))
 go_region_law (refine qge rfl (.tmp 50) (.tmp 53) 141 141 rfl (.slice (some ⟨N, (i + 1) * 5, none⟩) (l.length - i) (G - (i + 1))) (.slice (some ⟨b, off + i * 5, none⟩) (l.length - i) (c - i)) (by simp [Act.eval, Act.put]) (by simp [Act.eval, Act.put]) (HCP2.out _ _ _) ?_); all_goals go_wp2
 all_goals go_ret
 all_goals exact ⟨_, G, rfl, HF.out, HG.out, .inr ⟨N, rfl, Nat.le_of_eq HN.out.symm⟩⟩
theorem qnj (l : List qa3) (A : Option Addr) (c lo vb i : Nat) (x : qa3) (w : World) (own : Own qa3.enc 85 5 w lo A c l) (hv : w.heap[vb]? = some (.cells x.enc.toArray 85 (0, 0))) (hlo : lo ≤ w.heap.size) (hl : l.length ≤ 100000)
 (hi : i ≤ l.length) (hne : c = 0 ∨ ∀ b off, A = some ⟨b, off, none⟩ → vb ≠ b) :
 Calls prog 327 #[.slice A l.length c, .int .i64 i, .slice (some ⟨vb, 0, none⟩) 1 1] w (qd1 lo A c l i x w) := by
 rcases Nat.lt_or_ge i l.length with h | h
 · obtain ⟨b, off, rfl, h1, h2⟩ : ∃ b off, A = some ⟨b, off, none⟩ ∧ lo ≤ b ∧ b < w.heap.size := by
    rcases own.lt with h0 | h0
    · have := own.len; omega
    · exact h0
   rcases Nat.lt_or_ge c (l.length + 1) with h' | h'
   · exact qlm l b off c lo vb i x w own hv hlo hl h h'
   · exact qk8 l b off c lo vb i x w own hv hl h h' (by rcases hne with hne | hne; exact absurd h' (by omega); exact hne b off rfl)
 · obtain rfl : i = l.length := by omega
   exact qni l A c lo vb x w own hv hlo hl
end
end Go.Proofs.YtecikkjbnkhhkaaGreat
