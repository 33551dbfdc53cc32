/- A part of the walk. -/
import Derived.Test.YtecikkjbnkhhkaaGreatP08
import Derived.Test.YtecikkjbnkhhkaaGreatP11
import Derived.Lib.BufferWrite
namespace Go.Proofs.YtecikkjbnkhhkaaGreat
open _root_.Go.Proofs.Tryz
set_option maxHeartbeats 2000000
set_option maxRecDepth 100000
section
open Go.RowKit
theorem qbe {α : Type} {enc : α → List Value} {e : TypeId} {k : Nat} {P : Program} (w : World) {ops : Array Oper} {o : Oper} {a : Act} {K : Act → World → Prop} {Q : Exit → Act → World → Prop} {E : Prop} (hgd : o.guard = none) (s x : Operand) (t : TypeId)
 (ho : o.op = .call { callee := .builtin .append, args := #[s, x], argTypes := #[t, t] })
 (i : TypeInfo) (z : Value) (bytes : Nat) (ht : P.underlying t = some (.slice e)) (hi : P.info? e = some i) (hz : i.zero = some z)
 (hsize : i.size = k) (hby : i.bytes = bytes) (hzs : z.cells.size = k) (hk0 : 0 < k) (hk : ∀ x, (enc x).length = k) (h1 : ∀ x, ∀ u ∈ enc x, u.oneCell' = true)
 {lo : Nat} {A : Option Addr} {c : Nat} {l : List α} (hs : a.eval s = .slice A l.length c) (own : Own enc e k w lo A c l) {B : Nat} {A2 : Option Addr} {m : List α} (c2 : Nat) (hx : a.eval x = .slice A2 m.length c2) (arr : Arr enc k w B A2 m)
 (h63 : l.length + m.length ≤ maxLen) (hbytes : (l.length + m.length) * bytes ≤ 140737488355328) (hlo : lo ≤ w.heap.size)
 (h : ∀ A' c' w', Own enc e k w' lo A' c' (l ++ m) → w.grownBy w' (qa8 A c) → (A' = A ∧ c' = c ∨ ∃ g, A' = some ⟨g, 0, none⟩ ∧ w.heap.size ≤ g) → K (a.put o.dst (.slice A' (l.length + m.length) c')) w') :
 if Region.wanted o (yielded ops a.tmps) = true then Oper.wp P o a w K Q else E := by
 have hw : Region.wanted o (yielded ops a.tmps) = true := by simp [Region.wanted, hgd]
 rw [if_pos hw]; obtain ⟨A', c', w', hrun, h2, h3, h4⟩ := qeq (P := P) w t o.type i z bytes ht hi hz hsize hby hzs hk0 hk h1 own arr c2 h63 hbytes hlo; unfold Oper.wp execOp; simp only [ho, resolve, invoke, builtin, Sem.run_bind, Sem.run_pure, Result.andThen_ok, List.map_toArray, List.map_cons, List.map_nil, hs, hx, hrun]; exact h A' c' w' h2 h3 h4
theorem qr7 {w : World} {vb : Nat} {x : EntC} (hv : w.heap[vb]? = some (.cells x.enc.toArray 334 (0, 0))) : Arr EntC.enc 5 w w.heap.size (some ⟨vb, 0, none⟩) [x] := by
 refine Arr.of_cells EntC.enc_len ?_ fun j u hu => ?_
 · exact qa0 hv
 · rw [Nat.zero_add, cell_of_row w vb j _ _ _ hv, List.getElem?_toArray]
   simpa using hu
theorem Own.rowNe {α : Type} {enc : α → List Value} {e : TypeId} {k : Nat} {w : World} {lo : Nat} {A : Option Addr} {c p : Nat} {l : List α} (own : Own enc e k w lo A c l) (h : ∀ o, A = some ⟨p, o, none⟩ → c = 0) : some p ≠ qa8 A c := fun he => by
 unfold qa8 at he
 split at he
 · cases he
 · rename_i hc
   rcases own.lt with h0 | ⟨b, off, rfl, -, -⟩
   · exact hc h0
   · cases he
     exact hc (h off rfl)
theorem Own.offP {α : Type} {enc : α → List Value} {e : TypeId} {k : Nat} {w : World} {lo : Nat} {A : Option Addr} {c p : Nat} {l : List α} (own : Own enc e k w lo A c l) (h : ∀ o, A = some ⟨p, o, none⟩ → c = 0) (q : Nat) (u : Value) : Own enc e k (w.setCell ⟨p, q, none⟩ u) lo A c l := by
 obtain ⟨h1, h2, h3⟩ := own; refine ⟨h1, h2, ?_⟩; rcases h3 with h3 | ⟨b, off, cur, rfl, hlo, hh, hs, hc⟩
 · exact .inl h3
 · by_cases hb : b = p
   · subst hb
     exact .inl (h off rfl)
   · exact .inr ⟨b, off, cur, rfl, hlo, (Below.heap_setCell _ _ _ _ hb).trans hh, hs, hc⟩
def putE (l : List EntC) (x : EntC) : List EntC := if mayE x = true ∧ l.length < 258 then l ++ [x] else l
def qxo (lo p : Nat) (A : Option Addr) (c : Nat) (l : List EntC) (w : World) (e : Ending) (w' : World) : Prop := ∃ code A' c', e = .returned (.int .i64 code) ∧ qfi w' lo p A' c' l ∧ Below lo w w' ∧ (∀ b, b < w.heap.size → b ≠ p → (∀ o, A = some ⟨b, o, none⟩ → c = 0) → w'.heap[b]? = w.heap[b]?) ∧ (A' = A ∧ c' = c ∨ ∃ g, A' = some ⟨g, 0, none⟩ ∧ w.heap.size ≤ g)
theorem qr3 (w : World) (lo p : Nat) (A : Option Addr) (c : Nat) (l : List EntC) (x : EntC) (h : qfi w lo p A c l) (hap : ∀ o, A = some ⟨p, o, none⟩ → c = 0) : Calls prog 271 #[.pointer (some ⟨p, 0, none⟩), x.val] w (qxo lo p A c (putE l x) w) := by
 have H := hid h; have HAP := hid hap; have hp := qa0 h.box; have hlo := h.lo; clear h hap; have HXV := hid (show x.val = .agg #[.int .i64 x.line, .int .i64 x.cls, .int .u64 (x.r : Int), .int .u64 (x.d : Int), .int .i64 x.anti] from rfl); rw [HXV.out]; go_enter func271, ntmps271; go_upto_region 1 with fail; generalize hw1 : World.alloc w _ = w1; have R1 : w1.heap[w.heap.size]? = some (.cells x.enc.toArray 334 (0, 0)) := by rw [← hw1]; exact (qa2 _ _ _).trans (if_pos rfl)
 have b1 : Below w.heap.size w w1 := by rw [← hw1]; exact (Below.refl _ _).alloc (Nat.le_refl _) _
 have HR1 := hid R1; have HB1 := hid b1; have r0 := cell_of_row w1 _ 0 _ _ _ R1; have r1 := cell_of_row w1 _ 1 _ _ _ R1; have r2 := cell_of_row w1 _ 2 _ _ _ R1; have r3 := cell_of_row w1 _ 3 _ _ _ R1; have r4 := cell_of_row w1 _ 4 _ _ _ R1; have hl1 := qa0 R1; clear hw1 R1 b1; simp only [EntC.enc, List.getElem?_toArray, List.getElem?_cons_zero, List.getElem?_cons_succ] at r0 r1 r2 r3 r4; go_wp2_with fail; have TM := qvx x w1; rw [HXV.out] at TM; refine TM.mono ?_; rintro e w2 ⟨rfl, b2⟩; have bw2 : Below w.heap.size w w2 := HB1.out.trans (b2.mono HB1.out.size); have BX2 := (bw2.block p hp).trans H.out.box; have R2 := (b2.block _ hl1).trans HR1.out; have HOW := hid (H.out.rows.below bw2); have HBW := hid bw2; have HBX := hid BX2; have hp2 := qa0 BX2; have hl2 := qa0 R2; have p0 := cell_of_row w2 p 0 _ _ _ BX2; have fp := frozen_of_row w2 p 0 _ _ BX2; have HR2 := hid R2; clear r0 r1 r2 r3 r4 TM b2 bw2 BX2; have r0 := cell_of_row w2 _ 0 _ _ _ R2; have r1 := cell_of_row w2 _ 1 _ _ _ R2; have r2 := cell_of_row w2 _ 2 _ _ _ R2; have r3 := cell_of_row w2 _ 3 _ _ _ R2; have r4 := cell_of_row w2 _ 4 _ _ _ R2; simp only [EntC.enc, List.getElem?_toArray, List.getElem?_cons_zero, List.getElem?_cons_succ] at r0 r1 r2 r3 r4; clear R2; cases hm : mayE x with
 | false =>
  have hpe : putE l x = l := by unfold putE; rw [if_neg (by rw [hm]; rintro ⟨h, -⟩; cases h)]
  have HPE := hid hpe; clear hm hpe; go_wp2_with fail; go_ret; exact ⟨1, A, c, rfl, by rw [HPE.out]; exact ⟨HBX.out, HOW.out, hlo⟩, HBW.out.mono (by omega), (fun b hb _ _ => HBW.out.block b hb), .inl ⟨rfl, rfl⟩⟩
 | true =>
  by_cases hl : l.length < 258
  · have hpe : putE l x = l ++ [x] := by unfold putE; rw [if_pos ⟨hm, hl⟩]
    have HPE := hid hpe; have hli : ¬ (258 : Int) ≤ (l.length : Int) := by omega
    clear hm hpe; go_upto_region 5 with fail; obtain ⟨i0, hi0, hz0, hz1, hz2⟩ := info_parts qj2; have HI := hid hi0; have HZ0 := hid hz0; have HZ1 := hid hz1; have HZ2 := hid hz2; have HL := hid hl; clear hi0 hz0 hz1 hz2 hl hli; go_region_law (refine qbe (l := l) (m := [x]) (A := A) (c := c) (lo := lo) _ rfl (.tmp 22) (.tmp 24) 224 rfl i0 _ 40 underlying224 HI.out HZ0.out HZ1.out HZ2.out rfl (by decide) EntC.enc_len EntC.enc_one (by simp [Act.eval]) (by first | exact HOW.out.alloc _ | exact HOW.out.drew.alloc _ | exact (HOW.out.alloc _).drew) (A2 := some ⟨w2.heap.size, 0, none⟩) 1 (by simp [Act.eval]) (qr7 (vb := w2.heap.size) (x := x) (by first | (rw [qa2, if_pos (by simp)]; rfl) | (show (World.alloc _ _).heap[_]? = _; rw [qa2, if_pos (by simp)]; rfl))) (by have := HL.out; unfold maxLen; simp; omega) (by have := HL.out; simp; omega) (by have := HBW.out.size; simp; omega) ?_; intro A' c' w3 hown hgr hloc; have B3 : w3.heap[p]? = some (.cells #[.slice A l.length c] 226 (0, 0)) := (hgr.block p (by first | (simp; omega) | omega) (HOW.out.rowNe HAP.out)).trans ((by first | exact Below.heap_alloc w2 _ _ hp2 | exact Below.heap_alloc w2.drew _ _ hp2 : _ = w2.heap[p]?).trans HBX.out); have e31 := cell_of_row w3 p 0 _ _ _ B3; have f31 := frozen_of_row w3 p 0 _ _ B3; have hp3 := qa0 B3); all_goals
     have hwz := HBW.out.size; have hA' : ∀ o, A' = some ⟨p, o, none⟩ → c' = 0 := fun o ho => by
      rcases hloc with ⟨rfl, rfl⟩ | ⟨g, rfl, hg⟩
      · exact HAP.out o ho
      · cases ho
        simp at hg; omega
     have b3 : Below lo w w3 := qck (by first | exact HOW.out.alloc _ | exact HOW.out.drew.alloc _ | exact (HOW.out.alloc _).drew) hgr (by first | exact (HBW.out.mono (by omega)).alloc (by omega) _ | exact (HBW.out.mono (by omega)).drew.alloc (by show lo ≤ w2.heap.size; omega) _ | exact ((HBW.out.mono (by omega)).alloc (by omega) _).drew) (by simp; omega); have hoth : ∀ b, b < w.heap.size → b ≠ p → (∀ o, A = some ⟨b, o, none⟩ → c = 0) → (w3.setCell ⟨p, 0, none⟩ (.slice A' (l.length + 1) c')).heap[b]? = w.heap[b]? := fun b hb hbp hbA =>
      (Below.heap_setCell _ _ _ _ hbp).trans ((hgr.block b (by simp; omega) (HOW.out.rowNe hbA)).trans ((by first | exact Below.heap_alloc w2 _ _ (by omega) | exact Below.heap_alloc w2.drew _ _ (by show b < w2.heap.size; omega) : _ = w2.heap[b]?).trans (HBW.out.block b hb)))
     have HFIN := hid (show qfi (w3.setCell ⟨p, 0, none⟩ (.slice A' (l.length + 1) c')) lo p A' c' (putE l x) by
      rw [HPE.out]
      exact ⟨by rw [List.length_append]; exact heap_setCell_same w3 p 0 _ _ (.slice A' (l.length + 1) c') B3, hown.offP hA' _ _, hlo⟩)
     have HB3 := hid (b3.setCell (p := ⟨p, 0, none⟩) hlo (.slice A' (l.length + 1) c')); have HOT := hid hoth; have HLC : Hid (A' = A ∧ c' = c ∨ ∃ g, A' = some ⟨g, 0, none⟩ ∧ w.heap.size ≤ g) := hid (hloc.imp id fun ⟨y, h1, h2⟩ => ⟨y, h1, by simp at h2; omega⟩); clear hoth b3 hA' hloc hgr hown; go_wp2; go_ret; exact ⟨0, A', c', rfl, HFIN.out, HB3.out, HOT.out, HLC.out⟩
  · have hpe : putE l x = l := by unfold putE; rw [if_neg (by rintro ⟨-, h⟩; exact hl h)]
    have HPE := hid hpe; have hli : (258 : Int) ≤ (l.length : Int) := by omega
    clear hm hpe hl; go_wp2_with fail; go_ret; exact ⟨11, A, c, rfl, by rw [HPE.out]; exact ⟨HBX.out, HOW.out, hlo⟩, HBW.out.mono (by omega), (fun b hb _ _ => HBW.out.block b hb), .inl ⟨rfl, rfl⟩⟩
end
section
open Go.RowKit
def tabC (mb : Nat → Nat) : List Value := [.map (some (mb 0)), .map (some (mb 1)), .map (some (mb 2)), .map (some (mb 3)), .map (some (mb 4)), .map (some (mb 5)), .map (some (mb 6)), .map (some (mb 7))]
structure qbk (F : Nat → Prop) (w : World) (tb : Nat) (mb : Nat → Nat) (B : Nat → List qa3) : Prop where
 box : w.heap[tb]? = some (.cells (tabC mb).toArray 198 (0, 0))
 map : ∀ i, i < 8 → MapL w (mb i) (B i)
 inj : ∀ i j, i < 8 → j < 8 → mb i = mb j → i = j
 bkt : ∀ i, i < 8 → ∀ x ∈ B i, bucket x.key = i ∧ x.key.size ≤ 1000000
 own : F tb ∧ ∀ i, i < 8 → F (mb i)
section
variable {F : Nat → Prop} {w w' : World} {tb : Nat} {mb : Nat → Nat} {B : Nat → List qa3}
theorem qbk.cell (h : qbk F w tb mb B) {i : Nat} (hi : i < 8) : w.cell? ⟨tb, i, none⟩ = some (.map (some (mb i))) := by
 rw [cell_of_row w tb i _ _ _ h.box]; rcases (by omega : i = 0 ∨ i = 1 ∨ i = 2 ∨ i = 3 ∨ i = 4 ∨ i = 5 ∨ i = 6 ∨ i = 7) with rfl | rfl | rfl | rfl | rfl | rfl | rfl | rfl <;> rfl
theorem qbk.lt (h : qbk F w tb mb B) : tb < w.heap.size := qa0 h.box
theorem qbk.same (h : qbk F w tb mb B) (h1 : w'.heap[tb]? = w.heap[tb]?) (h2 : ∀ i, i < 8 → w'.heap[mb i]? = w.heap[mb i]?) : qbk F w' tb mb B := ⟨h1.trans h.box, fun i hi => (h.map i hi).same (h2 i hi), h.inj, h.bkt, h.own⟩
theorem qbk.below (h : qbk F w tb mb B) (hb : Below w.heap.size w w') : qbk F w' tb mb B := h.same (hb.block _ h.lt) fun i hi => hb.block _ (h.map i hi).lt
theorem qbk.only {G : Nat → Prop} (h : qbk F w tb mb B) (ho : Only G w w') (hG : ∀ j, F j → ¬ G j) : qbk F w' tb mb B := h.same (ho.block _ h.lt (hG _ h.own.1)) fun i hi => ho.block _ (h.map i hi).lt (hG _ (h.own.2 i hi))
theorem qbk.mono {G : Nat → Prop} (h : qbk F w tb mb B) (hFG : ∀ j, F j → G j) : qbk G w tb mb B := ⟨h.box, h.map, h.inj, h.bkt, hFG _ h.own.1, fun i hi => hFG _ (h.own.2 i hi)⟩
theorem qb6 (s : ByteArray) : bucket s < 8 := Nat.mod_lt _ (by decide)
theorem qh4 (h : qbk F w tb mb B) (key : ByteArray) (hk : key.size ≤ 1000000) : Calls prog 325 #[.pointer (some ⟨tb, 0, none⟩), .string key] w fun e w' => e = .returned (.map (some (mb (bucket key)))) ∧ Below w.heap.size w w' := by
 have hb8 := qb6 key; have TB := fun W => qg9 key W hk
 obtain ⟨k, hk⟩ : ∃ k, k = bucket key := ⟨_, rfl⟩; rw [← hk] at hb8 TB ⊢; have hc := h.cell hb8; have hlt := h.lt; have hk8 : (k : Int) < 8 := by omega
 clear hk h; go_enter func325, ntmps325; go_wp2_with fail; go_region_with (go_at_call 240; refine (TB _).mono ?_; rintro e w1 ⟨rfl, rfl⟩); all_goals
  go_wp2_with fail; go_ret; exact ⟨rfl, (by repeat (first | exact Below.refl _ _ | assumption | refine Below.drew ?_ | refine qa1 ?_ _ | refine Below.alloc ?_ (by first | omega | simp <;> omega) _ | refine Below.setCell ?_ (by first | omega | simp <;> omega) _))⟩
theorem qpt (h : qbk F w tb mb B) (key : ByteArray) (hk : key.size ≤ 1000000) : Calls prog 339 #[.pointer (some ⟨tb, 0, none⟩), .string key] w fun e w' => e = .returned (.tuple #[((qd0 (B (bucket key)) key).getD qak).val, .bool (qd0 (B (bucket key)) key).isSome]) ∧ Below w.heap.size w w' := by
 have H := hid h; have HK := hid hk; have hb8 := qb6 key; clear h hk; obtain ⟨y, hy⟩ : ∃ y, y = (qd0 (B (bucket key)) key).getD qak := ⟨_, rfl⟩; obtain ⟨ok, hok⟩ : ∃ ok, ok = (qd0 (B (bucket key)) key).isSome := ⟨_, rfl⟩; have HXV := hid (show y.val = .agg #[.string y.key, .int .u64 (y.id : Int), .int .u64 (y.ver : Int), .int .i64 y.line, .int .i64 y.cls] from rfl); rw [← hy, ← hok]; go_enter func339, ntmps339; go_upto_region 1 with fail; generalize hw1 : World.alloc w _ = w1; have b1 : Below w.heap.size w w1 := by rw [← hw1]; exact (Below.refl _ _).alloc (Nat.le_refl _) _
 have R1 : w1.heap[w.heap.size]? = some (.cells qak.enc.toArray 85 (0, 0)) := by rw [← hw1]; exact (qa2 _ _ _).trans (if_pos rfl)
 have HR1 := hid R1; have HB1 := hid b1; have H1 := hid (H.out.below b1); have hl1 := qa0 R1; clear hw1 R1 b1; go_wp2_with fail; refine (qh4 H1.out key HK.out).mono ?_; rintro e w2 ⟨rfl, b2⟩; have H2 := hid (H1.out.below b2); have lk := qk6 (H2.out.map _ hb8) key; rw [← hy, ← hok, HXV.out] at lk; have R2 := (b2.block _ hl1).trans HR1.out; have f0 := frozen_of_row w2 _ 0 _ _ R2; have f1 := frozen_of_row w2 _ 1 _ _ R2; have f2 := frozen_of_row w2 _ 2 _ _ R2; have f3 := frozen_of_row w2 _ 3 _ _ R2; have f4 := frozen_of_row w2 _ 4 _ _ R2; have q0 := cell_of_row w2 _ 0 _ _ _ R2; have q1 := cell_of_row w2 _ 1 _ _ _ R2; have q2 := cell_of_row w2 _ 2 _ _ _ R2; have q3 := cell_of_row w2 _ 3 _ _ _ R2; have q4 := cell_of_row w2 _ 4 _ _ _ R2; simp only [qa3.enc, List.getElem?_toArray, List.getElem?_cons_zero, List.getElem?_cons_succ] at q0 q1 q2 q3 q4; have hl2 := qa0 R2; have HB2 := hid (HB1.out.trans (b2.mono HB1.out.size)); have HY := hid hy; have HOKK := hid hok; have HR2 := hid R2; clear R2 b2 H1 H2 hy hok; go_wp2_with fail; refine bodyPost_ret (v := .tuple #[y.val, .bool ok]) (qdq results339 _ _ w.heap.size y _ (by simp) (by simp) ?_) rfl ⟨rfl, ?_⟩
 · exact (Below.heap_alloc _ _ _ (by simp; exact hl2)).trans (box5 HR2.out)
 · exact ((((((HB2.out.setCell (p := ⟨w.heap.size, 0, none⟩) (Nat.le_refl _) _).setCell (p := ⟨w.heap.size, 1, none⟩) (Nat.le_refl _) _).setCell (p := ⟨w.heap.size, 2, none⟩) (Nat.le_refl _) _).setCell (p := ⟨w.heap.size, 3, none⟩) (Nat.le_refl _) _).setCell (p := ⟨w.heap.size, 4, none⟩) (Nat.le_refl _) _).alloc (by simp; exact HB2.out.size) _)
end
end
section
open Go.RowKit
theorem qnx (w : World) {b off dLen dCap : Nat} {m : ByteArray} {t : TypeId} {l : List UInt8} (row : RowB w b t l) (hle : m.size ≤ dLen) (hfit : off + dLen ≤ l.length) : ∃ w', (∀ ty, (Builtin.copy_ #[86, 9] ty #[.slice (some ⟨b, off, none⟩) dLen dCap, .string m]).run prog w = .ok (.int .i64 (m.size : Int)) w') ∧ RowB w' b t (qbj l off (bl m)) ∧ (∀ k, k ≠ b → w'.heap[k]? = w.heap[k]?) ∧ ∀ lo w0, Below lo w0 w → lo ≤ b → Below lo w0 w' := by
 have hr := fun ty => Lib.run_copy_row_string (P := prog) w 86 9 ty 5 b off dLen dCap m (byC l).toArray t underlying86 (by
  have := qcu
  cases hq : prog.info? 5 with
  | none => rw [hq] at this; cases this
  | some i => rw [hq] at this; simp at this; simp [this]) row hle (by rw [List.size_toArray, qad]; omega)
 have e : ((byC l).toArray.toList.take off ++ Lib.byteCells m.data.toList ++ (byC l).toArray.toList.drop (off + m.size)).toArray = (byC (qbj l off (bl m))).toArray := by
  have hm : Lib.byteCells m.data.toList = byC (bl m) := rfl; rw [hm]; simp [byC, qbj, qfc]
 rw [e] at hr; exact ⟨_, hr, setRow_heap w b _ _ t (0, 0) row, fun k hk => setRow_other w b k _ hk, fun lo w0 hb hlo => below_setRow hb hlo _⟩
theorem qnd (n : Nat) (hn : n ≤ 1000000) (W : World) : ∃ w', (Instr.makeSlice 86 (.int .i64 (n : Int)) (.int .i64 (n : Int))).run prog W = .ok (.slice (some ⟨W.heap.size, 0, none⟩) n n) w' ∧ RowB w' W.heap.size 5 (zeros n) ∧ Below W.heap.size W w' ∧ w'.heap.size = W.heap.size + 1 :=
 ⟨_, mkB n hn W, (qa2 _ _ _).trans (if_pos rfl), (Below.refl _ _).alloc (Nat.le_refl _) _, by simp⟩
theorem qeg {b : BlkC} (h : mayB b = true) : ¬ qa9 b.cls = 0 ∧ b.key.size ≤ 16 ∧ b.val.size ≤ 400 ∧ b.key.size + b.val.size ≤ capI b.cls ∧ b.id < 18446744073709551616 ∧ b.ver < 18446744073709551616 ∧ b.ep < 18446744073709551616 := by
 have need : ∀ n : Nat, ∀ c : Int, qbh (n : Int) = c → ¬ qa9 c = 0 → n ≤ capI c := fun n c hc hs => by
  unfold qbh at hc; rw [if_neg (by omega)] at hc; have h4 := qm5 c; rcases h4 with rfl | rfl | rfl | rfl | h4
  · repeat' split at hc
    all_goals first | omega | (simp [capI]; omega)
  · repeat' split at hc
    all_goals first | omega | (simp [capI]; omega)
  · repeat' split at hc
    all_goals first | omega | (simp [capI]; omega)
  · repeat' split at hc
    all_goals first | omega | (simp [capI]; omega)
  · exact absurd (qe1 h4) hs
 have num : ∀ v, qau v = true → v < 18446744073709551616 := fun v hv => by
  simp [qau] at hv; omega
 have tz : ∀ s : ByteArray, s.toList = [] → s.size = 0 := fun s hs => by
  rw [Lib.toList_data] at hs; show s.data.size = 0
  rw [← Array.length_toList, hs]; rfl
 unfold mayB at h; split at h
 · cases h
 · rename_i hs
   refine ⟨hs, ?_⟩; split at h
   · simp only [decide_eq_true_eq] at h
     obtain ⟨h1, h2, h3, h4, h5⟩ := h; have := tz _ h4; have := tz _ h5; exact ⟨by omega, by omega, by omega, by omega, by omega, by omega⟩
   · split at h
     · split at h
       · cases h
       · split at h
         · cases h
         · rename_i q1 q2
           simp only [Bool.and_eq_true] at h; have := need (b.key.size + b.val.size) b.cls (by
            have : ¬ (qbh ((b.key.size : Int) + b.val.size) ≠ b.cls) := fun h0 => q2 (.inr h0)
            rw [Int.natCast_add]
            exact Classical.not_not.1 this) hs
           exact ⟨by omega, by omega, this, num _ h.1.1, num _ h.1.2, num _ h.2⟩
     · split at h
       · split at h
         · cases h
         · rename_i q1
           simp only [Bool.and_eq_true] at h; have := need b.val.size b.cls (by
            have : ¬ (qbh (b.val.size : Int) ≠ b.cls) := fun h0 => q1 (.inr (.inr h0))
            exact Classical.not_not.1 this) hs
           exact ⟨by omega, by omega, by omega, num _ h.1.1, num _ h.1.2, num _ h.2⟩
       · split at h
         · split at h
           · cases h
           · rename_i q1
             simp only [Bool.and_eq_true] at h; exact ⟨by omega, by omega, by omega, num _ h.1.1, num _ h.1.2, num _ h.2⟩
         · cases h
end
end Go.Proofs.YtecikkjbnkhhkaaGreat
