/- A part of the walk. -/
import Derived.Test.YtecikkjbnkhhkaaGreatP20
import Derived.Test.YtecikkjbnkhhkaaGreatP26
namespace Go.Proofs.YtecikkjbnkhhkaaGreat
open _root_.Go.Proofs.Tryz
set_option maxHeartbeats 4000000
set_option maxRecDepth 100000
section
open Go.RowKit
def qf6 (x y : qa3) : Bool := (x.key.toList == y.key.toList) && (((x.id : Int) == (y.id : Int)) && (((x.ver : Int) == (y.ver : Int)) && ((x.line == y.line) && (x.cls == y.cls))))
theorem qix {x y : qa3} : qf6 x y = true ↔ x = y := by
 obtain ⟨k, i, v, l, c⟩ := x; obtain ⟨k', i', v', l', c'⟩ := y; simp only [qf6, Bool.and_eq_true, beq_iff_eq, qa3.mk.injEq]; constructor
 · rintro ⟨h1, h2, h3, h4, h5⟩
   exact ⟨qbu h1, by omega, by omega, h4, h5⟩
 · rintro ⟨rfl, rfl, rfl, rfl, rfl⟩
   exact ⟨rfl, rfl, rfl, rfl, rfl⟩
theorem qox (x y : qa3) (W : World) : (binOp .eql 85 (.agg #[.string x.key, .int .u64 (x.id : Int), .int .u64 (x.ver : Int), .int .i64 x.line, .int .i64 x.cls]) (.agg #[.string y.key, .int .u64 (y.id : Int), .int .u64 (y.ver : Int), .int .i64 y.line, .int .i64 y.cls])).run prog W = .ok (.bool (qf6 x y)) W := by
 simp [run_eql_struct, go_sem, qf6]; (repeat' split) <;> simp_all
def gotT (T : Nat → List qa3) (key : ByteArray) : Option qa3 := qd0 (T (bucket key)) key
def qby (T : Nat → List qa3) (Q : List qa3) (x : ChgC) : Bool :=
 if qcf x = true then ((gotT T x.key).isSome == x.had) && (!(gotT T x.key).isSome || qf6 ((gotT T x.key).getD qak) x.old)
 else if x.kind = 5 then Q.head?.isSome && qf6 (Q.head?.getD qak) x.old else true
theorem qhm {w : World} {b : Nat} {t : TypeId} {z : qa3} (h : w.heap[b]? = some (.cells z.enc.toArray t (0, 0))) (y : qa3) : (((((w.setCell ⟨b, 0, none⟩ (.string y.key)).setCell ⟨b, 1, none⟩ (.int .u64 (y.id : Int))).setCell ⟨b, 2, none⟩ (.int .u64 (y.ver : Int))).setCell ⟨b, 3, none⟩ (.int .i64 y.line)).setCell ⟨b, 4, none⟩ (.int .i64 y.cls)).heap[b]? = some (.cells y.enc.toArray t (0, 0)) :=
 qay (qay (qay (qay (qay h 0 (.string y.key)) 1 (.int .u64 (y.id : Int))) 2 (.int .u64 (y.ver : Int))) 3 (.int .i64 y.line)) 4 (.int .i64 y.cls)
theorem qgr (w : World) (y : qa3) (t : TypeId) : (w.alloc (.cells #[.string y.key, .int .u64 (y.id : Int), .int .u64 (y.ver : Int), .int .i64 y.line, .int .i64 y.cls] t)).heap[w.heap.size]? = some (.cells y.enc.toArray t (0, 0)) := (qa2 _ _ _).trans (if_pos rfl)
theorem qgh {w : World} {p c : Nat} {A : Option Addr} {Q : List qa3} (h : qmi w 0 p A c Q) : Calls prog 251 #[.pointer (some ⟨p, 0, none⟩)] w (qed (Q.head?.getD qak) Q.head?.isSome w) := by
 obtain ⟨L, at', n, h1, rfl⟩ := h; have hp := qa0 h1.box; have hk : ∀ W, Below w.heap.size w W → qbo W 0 p A c L at' n := fun W hb => h1.keep (hb.block p hp) (fun b _ hlt => hb.block b hlt)
 by_cases hn : n = 0
 · subst hn
   exact qgi w p qak false hp fun W hb => qn4 W 0 p A c L at' (hk W hb)
 · have hat : at' < L.length := by have := h1.fit; omega
   have e : (qd4 L at' n).head? = some L[at'] := by rw [ql5 h1.fit.1 hn hat L[at']]; rfl
   rw [e]; exact qgi w p L[at'] true hp fun W hb => qgf W 0 p A c L at' n (hk W hb) hn hat
theorem ChgC.cells {w : World} {p : Nat} {t : TypeId} {x : ChgC} (h : w.heap[p]? = some (.cells x.enc.toArray t (0, 0))) : w.cell? ⟨p, 0, none⟩ = some (.int .i64 x.kind) ∧ w.cell? ⟨p, 1, none⟩ = some (.string x.key) ∧ w.cell? ⟨p, 2, none⟩ = some (.string x.val) ∧ w.cell? ⟨p, 3, none⟩ = some (.bool x.had) ∧ w.cell? ⟨p, 4, none⟩ = some (.string x.old.key) ∧ w.cell? ⟨p, 5, none⟩ = some (.int .u64 (x.old.id : Int)) ∧ w.cell? ⟨p, 6, none⟩ = some (.int .u64 (x.old.ver : Int)) ∧ w.cell? ⟨p, 7, none⟩ = some (.int .i64 x.old.line) ∧ w.cell? ⟨p, 8, none⟩ = some (.int .i64 x.old.cls) ∧ w.cell? ⟨p, 9, none⟩ = some (.int .i64 x.line) ∧ w.cell? ⟨p, 10, none⟩ = some (.int .i64 x.cls) :=
 ⟨cell_of_row w p 0 _ _ _ h, cell_of_row w p 1 _ _ _ h, cell_of_row w p 2 _ _ _ h, cell_of_row w p 3 _ _ _ h, cell_of_row w p 4 _ _ _ h, cell_of_row w p 5 _ _ _ h, cell_of_row w p 6 _ _ _ h, cell_of_row w p 7 _ _ _ h, cell_of_row w p 8 _ _ _ h, cell_of_row w p 9 _ _ _ h, cell_of_row w p 10 _ _ _ h⟩
theorem ChgC.v_eq (x : ChgC) : x.v = .agg #[.int .i64 x.kind, .string x.key, .string x.val, .bool x.had, .string x.old.key, .int .u64 (x.old.id : Int), .int .u64 (x.old.ver : Int), .int .i64 x.old.line, .int .i64 x.old.cls, .int .i64 x.line, .int .i64 x.cls] := rfl
section
variable {g : Own8} {w : World} {a : Nat} {P : qag} {M : qa4}
def quv (r : Bool) (w : World) (e : Ending) (w' : World) : Prop := e = .returned (.bool r) ∧ Below w.heap.size w w'
theorem qt7 (h : qa6 g w a P M) (x : ChgC) (hk : x.key.size ≤ 1000000) : Calls prog 305 #[.pointer (some ⟨a, 0, none⟩), x.v] w (quv (qby M.T M.Q x) w) := by
 have H := hid h; have HK := hid hk; have HXV := hid x.v_eq; rw [HXV.out]; clear h hk; cases hm : qcf x with
 | true =>
  have hfb : qby M.T M.Q x = (((gotT M.T x.key).isSome == x.had) && (!(gotT M.T x.key).isSome || qf6 ((gotT M.T x.key).getD qak) x.old)) := by rw [qby, if_pos hm]
  have HM := hid hm; obtain ⟨y, hy⟩ : ∃ y, y = (gotT M.T x.key).getD qak := ⟨_, rfl⟩; obtain ⟨ok, hok⟩ : ∃ ok, ok = (gotT M.T x.key).isSome := ⟨_, rfl⟩; have HTG : Hid (∀ W, Below w.heap.size w W → Calls prog 339 #[.pointer (some ⟨P.tb, 0, none⟩), .string x.key] W fun e w' => e = .returned (.tuple #[.agg #[.string y.key, .int .u64 (y.id : Int), .int .u64 (y.ver : Int), .int .i64 y.line, .int .i64 y.cls], .bool ok]) ∧ Below W.heap.size W w') := hid fun W hW => by
   rw [hok, hy]; exact qpt (H.out.below hW).tab x.key HK.out
  rw [← hy, ← hok] at hfb; rw [hfb]; clear hy hok; clear hm hfb; go_enter func305, ntmps305; go_upto_region 1 with fail; generalize hw1 : World.alloc _ _ = w1; have R0 : w1.heap[w.heap.size]? = some (.cells x.enc.toArray 376 (0, 0)) := by rw [← hw1]; exact (qa2 _ _ _).trans (if_pos rfl)
  have b1 : Below w.heap.size w w1 := by rw [← hw1]; exact (Below.refl _ _).alloc (Nat.le_refl _) _
  obtain ⟨c0, c1, c2, c3, c4, c5, c6, c7, c8, c9, cA⟩ := ChgC.cells R0; have hl0 := qa0 R0; have HR0 := hid R0; have HB1 := hid b1; clear hw1 R0 b1; go_wp2_with fail; have TM := qdf x w1; rw [HXV.out] at TM; refine TM.mono ?_; rintro e w2 ⟨rfl, hb2⟩; rw [HM.out]; have R0 := qac hb2 hl0 HR0.out; obtain ⟨c0, c1, c2, c3, c4, c5, c6, c7, c8, c9, cA⟩ := ChgC.cells R0; have HB2 := hid (HB1.out.trans (hb2.mono HB1.out.size)); have H2 := H.out.below HB2.out; have q5 := H2.cells.2.2.2.2.2.1; have hla := qa0 H2.box.1; have hl0 := qa0 R0; have HR0 := hid R0; have HTG2 : Hid (∀ W, Below w2.heap.size w2 W → _) := hid fun W (hW : Below w2.heap.size w2 W) => HTG.out W (HB2.out.trans (hW.mono HB2.out.size))
  clear hb2 TM H2 R0 HTG HB1; go_upto_region 2 with fail; go_cut [5, 6] (fun v5 v6 wx => ∃ p, v5 = .pointer (some ⟨p, 0, none⟩) ∧ wx.heap[p]? = some (.cells y.enc.toArray 85 (0, 0)) ∧ v6 = .bool ok ∧ Below w2.heap.size w2 wx)
  case first =>
   go_region_with (go_at_call 339; refine (HTG2.out _ ?_).mono ?_; exact (by with_reducible repeat (first | exact Below.refl _ _ | assumption | refine Below.drew ?_ | refine qa1 ?_ _ | refine Below.alloc ?_ (by first | omega | simp <;> omega) _ | refine Below.setCell ?_ (by first | omega | simp <;> omega) _)); rintro e w3 ⟨rfl, hb3⟩; (try (have hrow3 : w3.heap[w2.heap.size]? = some (.cells qak.enc.toArray 85 (0, 0)) := (hb3.block _ (by simp; done)).trans (by first | exact (qa2 _ _ _).trans (if_pos rfl) | exact (show (World.drew _).heap[_]? = _ from (qa2 _ _ _).trans (if_pos rfl)) | exact (show (World.alloc _ _).heap[_]? = _ from (qa2 _ _ _).trans (if_pos (by simp)))); have fk0 := frozen_of_row w3 _ 0 _ _ hrow3; have fk1 := frozen_of_row w3 _ 1 _ _ hrow3; have fk2 := frozen_of_row w3 _ 2 _ _ hrow3; have fk3 := frozen_of_row w3 _ 3 _ _ hrow3; have fk4 := frozen_of_row w3 _ 4 _ _ hrow3; have qk0 := cell_of_row w3 _ 0 _ _ _ hrow3; have qk1 := cell_of_row w3 _ 1 _ _ _ hrow3; have qk2 := cell_of_row w3 _ 2 _ _ _ hrow3; have qk3 := cell_of_row w3 _ 3 _ _ _ hrow3; have qk4 := cell_of_row w3 _ 4 _ _ _ hrow3; simp only [qa3.enc, List.getElem?_toArray, List.getElem?_cons_zero, List.getElem?_cons_succ] at qk0 qk1 qk2 qk3 qk4; have hlk3 := qa0 hrow3)); have HB3 : Hid (Below w2.heap.size w2 w3) := hid (by refine Below.trans ?_ (hb3.mono ?_); exact (by with_reducible repeat (first | exact Below.refl _ _ | assumption | refine Below.drew ?_ | refine qa1 ?_ _ | refine Below.alloc ?_ (by first | omega | simp <;> omega) _ | refine Below.setCell ?_ (by first | omega | simp <;> omega) _)); (first | exact Nat.le_refl _ | (simp; done) | (simp; omega))); clear hb3); all_goals
    go_wp2_with fail; go_meet; refine ⟨_, rfl, ?_, rfl, ?_⟩
    · first | with_reducible exact qgr _ y _ | with_reducible exact qhm hrow3 y
    · first | with_reducible exact HB3.out.alloc HB3.out.size _ | exact qba HB3.out (Nat.le_refl _) 0 _ _ _ _ _
  obtain ⟨p, rfl, hrow, rfl, hbc⟩ := hcut; obtain ⟨w4, hw4⟩ : ∃ x, x = wc := ⟨_, rfl⟩; subst hw4; have R0 := qac hbc hl0 HR0.out; obtain ⟨c0, c1, c2, c3, c4, c5, c6, c7, c8, c9, cA⟩ := ChgC.cells R0; have k0 := cell_of_row w4 _ 0 _ _ _ hrow; have k1 := cell_of_row w4 _ 1 _ _ _ hrow; have k2 := cell_of_row w4 _ 2 _ _ _ hrow; have k3 := cell_of_row w4 _ 3 _ _ _ hrow; have k4 := cell_of_row w4 _ 4 _ _ _ hrow; simp only [qa3.enc, List.getElem?_toArray, List.getElem?_cons_zero, List.getElem?_cons_succ] at k0 k1 k2 k3 k4; have hlx := qa0 hrow; have hl0 := qa0 R0; have LE := qox y x.old; have HB4 := hid (HB2.out.trans (hbc.mono HB2.out.size)); clear R0 hrow hbc HR0 HTG2 HB2; cases hc : (ok == x.had) with
  | false =>
   have HC := hid hc; go_wp2_with fail; go_ret; exact ⟨by rw [HC.out]; rfl, HB4.out⟩
  | true =>
   have HC := hid hc; cases ok with
   | false =>
    go_wp2_with fail; go_ret; exact ⟨by rw [HC.out]; rfl, HB4.out⟩
   | true =>
    go_wp2_with fail; go_ret; exact ⟨by rw [HC.out]; rfl, HB4.out⟩
 | false =>
  have HM := hid hm; by_cases h5 : x.kind = 5
  · have hfb : qby M.T M.Q x = (M.Q.head?.isSome && qf6 (M.Q.head?.getD qak) x.old) := by rw [qby, if_neg (by rw [hm]; decide), if_pos h5]
    obtain ⟨y, hy⟩ : ∃ y, y = M.Q.head?.getD qak := ⟨_, rfl⟩; obtain ⟨ok, hok⟩ : ∃ ok, ok = M.Q.head?.isSome := ⟨_, rfl⟩; rw [← hy, ← hok] at hfb; rw [hfb]; have HTH : Hid (∀ W, Below w.heap.size w W → Calls prog 251 #[.pointer (some ⟨P.lp, 0, none⟩)] W fun e w' => e = .returned (.tuple #[.agg #[.string y.key, .int .u64 (y.id : Int), .int .u64 (y.ver : Int), .int .i64 y.line, .int .i64 y.cls], .bool ok]) ∧ Below W.heap.size W w') := hid fun W hW => by
     obtain ⟨A, c, hq, _⟩ := (H.out.below hW).line; rw [hok, hy]; exact qgh hq
    have H5 := hid h5; clear hy hok hm hfb h5; go_enter func305, ntmps305; go_upto_region 1 with fail; generalize hw1 : World.alloc _ _ = w1; have R0 : w1.heap[w.heap.size]? = some (.cells x.enc.toArray 376 (0, 0)) := by rw [← hw1]; exact (qa2 _ _ _).trans (if_pos rfl)
    have b1 : Below w.heap.size w w1 := by rw [← hw1]; exact (Below.refl _ _).alloc (Nat.le_refl _) _
    obtain ⟨c0, c1, c2, c3, c4, c5, c6, c7, c8, c9, cA⟩ := ChgC.cells R0; have hl0 := qa0 R0; have HR0 := hid R0; have HB1 := hid b1; clear hw1 R0 b1; go_wp2_with fail; have TM := qdf x w1; rw [HXV.out] at TM; refine TM.mono ?_; rintro e w2 ⟨rfl, hb2⟩; rw [HM.out]; have R0 := qac hb2 hl0 HR0.out; obtain ⟨c0, c1, c2, c3, c4, c5, c6, c7, c8, c9, cA⟩ := ChgC.cells R0; rw [H5.out] at c0; have HB2 := hid (HB1.out.trans (hb2.mono HB1.out.size)); have H2 := H.out.below HB2.out; have q7 := H2.cells.2.2.2.2.2.2.2.1; have hla := qa0 H2.box.1; have hl0 := qa0 R0; have HR0 := hid R0; clear hb2 TM H2 R0 HB1; go_wp2_with fail; refine (HTH.out w2 HB2.out).mono ?_; rintro e w3 ⟨rfl, hb3⟩; have R0 := qac hb3 hl0 HR0.out; obtain ⟨c0, c1, c2, c3, c4, c5, c6, c7, c8, c9, cA⟩ := ChgC.cells R0; rw [H5.out] at c0; have hl0 := qa0 R0; have HB3 := hid (HB2.out.trans (hb3.mono HB2.out.size)); have LE := qox y x.old; clear hb3 R0 HR0 q7; cases ok with
    | false =>
     go_wp2_with fail; go_ret; exact ⟨rfl, HB3.out.alloc HB3.out.size _⟩
    | true =>
     go_wp2_with fail; go_ret; exact ⟨rfl, HB3.out.alloc HB3.out.size _⟩
  · have hfb : qby M.T M.Q x = true := by rw [qby, if_neg (by rw [hm]; decide), if_neg h5]
    have H5 := hid h5; rw [hfb]; have h5b : (x.kind == 5) = false := by rw [beq_eq_false_iff_ne]; exact h5
    clear hm hfb h5; go_enter func305, ntmps305; go_upto_region 1 with fail; generalize hw1 : World.alloc _ _ = w1; have R0 : w1.heap[w.heap.size]? = some (.cells x.enc.toArray 376 (0, 0)) := by rw [← hw1]; exact (qa2 _ _ _).trans (if_pos rfl)
    have b1 : Below w.heap.size w w1 := by rw [← hw1]; exact (Below.refl _ _).alloc (Nat.le_refl _) _
    obtain ⟨c0, c1, c2, c3, c4, c5, c6, c7, c8, c9, cA⟩ := ChgC.cells R0; have hl0 := qa0 R0; have HR0 := hid R0; have HB1 := hid b1; clear hw1 R0 b1; go_wp2_with fail; have TM := qdf x w1; rw [HXV.out] at TM; refine TM.mono ?_; rintro e w2 ⟨rfl, hb2⟩; rw [HM.out]; have R0 := qac hb2 hl0 HR0.out; obtain ⟨c0, c1, c2, c3, c4, c5, c6, c7, c8, c9, cA⟩ := ChgC.cells R0; have HB2 := hid (HB1.out.trans (hb2.mono HB1.out.size)); have hl0 := qa0 R0; clear hb2 TM R0 HB1 HR0; go_wp2_with fail; go_ret; exact ⟨rfl, HB2.out⟩
end
end
section
open Go.RowKit
def qkv (M : qa4) (line : Int) : Bool := ((catB M.T 8).any fun x => x.line == line) || ((M.Q.any fun x => x.line == line) || M.bag.any fun e => e.line == line || e.anti == line)
theorem Arr.entry {w : World} {B : Nat} {A : Option Addr} {l : List EntC} (h : Arr EntC.enc 5 w B A l) {i : Nat} (hi : i < l.length) : ∃ b off, A = some ⟨b, off, none⟩ ∧ b < B ∧ w.cell? ⟨b, off + i * 5, none⟩ = some (.int .i64 l[i].line) ∧ w.cell? ⟨b, off + i * 5 + 1, none⟩ = some (.int .i64 l[i].cls) ∧ w.cell? ⟨b, off + i * 5 + 2, none⟩ = some (.int .u64 (l[i].r : Int)) ∧ w.cell? ⟨b, off + i * 5 + 3, none⟩ = some (.int .u64 (l[i].d : Int)) ∧ w.cell? ⟨b, off + i * 5 + 4, none⟩ = some (.int .i64 l[i].anti) := by
 rcases h with h | ⟨b, off, hA, hb, hc⟩
 · subst h; exact absurd hi (Nat.not_lt_zero _)
 · exact ⟨b, off, hA, hb, hc i hi 0 _ rfl, hc i hi 1 _ rfl, hc i hi 2 _ rfl, hc i hi 3 _ rfl, hc i hi 4 _ rfl⟩
theorem qkn {α : Type} {l : List α} {k : Nat} (hk : k < l.length) {p : α → Bool} (h : p l[k] = true) : l.any p = true := List.any_eq_true.2 ⟨l[k], List.getElem_mem hk, h⟩
theorem qu2 {α : Type} {l : List α} {p : α → Bool} (h : ∀ i (hi : i < l.length), p l[i] = false) : l.any p = false := by
 rw [List.any_eq_false]; intro x hx; obtain ⟨i, hi, rfl⟩ := List.getElem_of_mem hx; rw [h i hi]; decide
structure Few (M : qa4) (n : Nat) : Prop where
 t : (catB M.T 8).length ≤ n
 q : M.Q.length ≤ n
 qn : M.qn ≤ n
 o : M.O.length ≤ n
 e : M.E.length ≤ n
 b : M.bag.length ≤ 258
theorem qAu {W W' : World} {a : Nat} {u v : Value} (hb : Below W.heap.size W W') (ha : a < W.heap.size) (h : W.cell? ⟨a, 5, none⟩ = some u ∧ W.cell? ⟨a, 7, none⟩ = some v) : W'.cell? ⟨a, 5, none⟩ = some u ∧ W'.cell? ⟨a, 7, none⟩ = some v :=
 ⟨(hb.cell (p := ⟨a, 5, none⟩) ha).trans h.1, (hb.cell (p := ⟨a, 7, none⟩) ha).trans h.2⟩
section
variable {g : Own8} {w : World} {a : Nat} {P : qag} {M : qa4}
theorem qgl (h : qa6 g w a P M) (hn : M.qn ≤ 900000) : Calls prog 63 #[.pointer (some ⟨P.lp, 0, none⟩)] w (qdl M.Q w) := by
 obtain ⟨A, c, h1, _, _, h4⟩ := h.line; exact qng w 0 P.lp A c M.Q h1 fun L at' n hf => by have := h4.len hf.box; omega
def qzw (M : qa4) (l : List qa3) : Prop := (∀ x, x ∈ l ↔ x ∈ catB M.T 8 ∨ x ∈ M.Q) ∧ l.length ≤ 100000
theorem qv6 (h : qa6 g w a P M) (line : Int) (hn : Few M 50000) : Calls prog 341 #[.pointer (some ⟨a, 0, none⟩), .int .i64 line] w (quv (qkv M line) w) := by
 have H := hid h; have q5 := h.cells.2.2.2.2.2.1; have q7 := h.cells.2.2.2.2.2.2.2.1; have hla := qa0 h.box.1; have HTA : Hid (∀ W, Below w.heap.size w W → Calls prog 60 #[.pointer (some ⟨P.tb, 0, none⟩)] W (qku M.T W)) := hid fun W hW => qio (h.below hW).tab (by have := hn.t; omega)
 have HLA : Hid (∀ W, Below w.heap.size w W → Calls prog 63 #[.pointer (some ⟨P.lp, 0, none⟩)] W (qdl M.Q W)) := hid fun W hW => qgl (h.below hW) (by have := hn.qn; omega)
 have HK := hid (And.intro q5 q7); have HN := hid hn; have HQN := hid hn.q; clear h hn; obtain ⟨Q, hQ⟩ : ∃ Q, Q = M.Q := ⟨_, rfl⟩; rw [← hQ] at HLA HQN; have HQ := hid hQ; clear hQ; obtain ⟨i0, hi0, hz0, hz1, hz2⟩ := info_parts qct; have HI := hid hi0; have HZ0 := hid hz0; have HZ1 := hid hz1; have HZ2 := hid hz2; clear hi0 hz0 hz1 hz2; go_enter func341, ntmps341; go_upto_region 1 with fail; go_cut [19, 20, 21] (fun v19 v20 v21 wx => ∃ A c l, v19 = .slice A l.length c ∧ v20 = .int .i64 (l.length : Int) ∧ v21 = .int .i64 0 ∧ Own qa3.enc 85 5 wx w.heap.size A c l ∧ qzw M l ∧ Below w.heap.size w wx)
 case first =>
  go_region_held3 (fun W => W.cell? ⟨a, 5, none⟩ = some (.pointer (some ⟨P.tb, 0, none⟩)) ∧ W.cell? ⟨a, 7, none⟩ = some (.pointer (some ⟨P.lp, 0, none⟩))) (first | (with_reducible refine qAu (W := w) ?_ hla HK.out; (repeat (first | with_reducible exact Below.refl _ _ | with_reducible assumption | with_reducible refine Below.drew ?_ | with_reducible refine qa1 ?_ _)); done) | go_keep) (first | (go_at_call 60; refine (HTA.out _ ?_).mono ?_; exact (by with_reducible repeat (first | exact Below.refl _ _ | assumption | refine Below.drew ?_ | refine qa1 ?_ _ | refine Below.alloc ?_ (by first | omega | simp <;> omega) _ | refine Below.setCell ?_ (by first | omega | simp <;> omega) _)); rintro e w3 ⟨A1, c1, l1, rfl, hown1, hb1, hall⟩; have HALL := hid hall; clear hall; have ST3 : Below w.heap.size w w3 := (by refine Below.trans ?_ (hb1.mono ?_); exact (by with_reducible repeat (first | exact Below.refl _ _ | assumption | refine Below.drew ?_ | refine qa1 ?_ _ | refine Below.alloc ?_ (by first | omega | simp <;> omega) _ | refine Below.setCell ?_ (by first | omega | simp <;> omega) _)); (first | exact Nat.le_refl _ | (simp; done) | (simp; omega) | omega)); have z3 := ST3.size; have HO1 : Hid (Own qa3.enc 85 5 w3 w.heap.size A1 c1 l1) := hid (hown1.lower (lo' := w.heap.size) (by first | exact Nat.le_refl _ | (simp; done) | (simp; omega) | omega)); have HROW := hid (qe4 HO1.out); (try (have HO2B : Hid (Own qa3.enc 85 5 w3 w.heap.size A2 c2 Q) := hid (HO2.out.below (by refine Below.trans ?_ (hb1.mono ?_); exact (by with_reducible repeat (first | exact Below.refl _ _ | assumption | refine Below.drew ?_ | refine qa1 ?_ _ | refine Below.alloc ?_ (by first | omega | simp <;> omega) _ | refine Below.setCell ?_ (by first | omega | simp <;> omega) _)); (first | exact Nat.le_refl _ | (simp; done) | (simp; omega) | omega))))); clear hown1 hb1) | (go_at_call 63; refine (HLA.out _ ?_).mono ?_; exact (by with_reducible repeat (first | exact Below.refl _ _ | assumption | refine Below.drew ?_ | refine qa1 ?_ _ | refine Below.alloc ?_ (by first | omega | simp <;> omega) _ | refine Below.setCell ?_ (by first | omega | simp <;> omega) _)); rintro e w5 ⟨A2, c2, rfl, hown2, hb2⟩; have ST5 : Below w.heap.size w w5 := (by refine Below.trans ?_ (hb2.mono ?_); exact (by with_reducible repeat (first | exact Below.refl _ _ | assumption | refine Below.drew ?_ | refine qa1 ?_ _ | refine Below.alloc ?_ (by first | omega | simp <;> omega) _ | refine Below.setCell ?_ (by first | omega | simp <;> omega) _)); (first | exact Nat.le_refl _ | (simp; done) | (simp; omega) | omega)); have z5 := ST5.size; have HO2 : Hid (Own qa3.enc 85 5 w5 w.heap.size A2 c2 Q) := hid (hown2.lower (lo' := w.heap.size) (by first | exact Nat.le_refl _ | (simp; done) | (simp; omega) | omega)); (try (have HO1B : Hid (Own qa3.enc 85 5 w5 w.heap.size A1 c1 l1) := hid (HO1.out.below (by refine Below.trans ?_ (hb2.mono ?_); exact (by with_reducible repeat (first | exact Below.refl _ _ | assumption | refine Below.drew ?_ | refine qa1 ?_ _ | refine Below.alloc ?_ (by first | omega | simp <;> omega) _ | refine Below.setCell ?_ (by first | omega | simp <;> omega) _)); (first | exact Nat.le_refl _ | (simp; done) | (simp; omega) | omega))))); clear hown2 hb2) | (refine qbe (l := l1) (m := Q) (A := A1) (c := c1) (lo := w.heap.size) _ (by rfl) (.tmp 13) (.tmp 18) 141 (by rfl) i0 _ 48 underlying141 HI.out HZ0.out HZ1.out HZ2.out rfl (by decide) qa3.enc_len qa3.enc_one (by first | rfl | simp [Act.eval]) (by first | with_reducible exact HO1B.out | with_reducible exact HO1B.out.drew | with_reducible exact HO1.out | with_reducible exact HO1.out.drew) c2 (by first | rfl | simp [Act.eval]) (by first | with_reducible exact HO2B.out.arr qa3.enc_len | with_reducible exact (HO2B.out.drew).arr qa3.enc_len | with_reducible exact HO2.out.arr qa3.enc_len | with_reducible exact (HO2.out.drew).arr qa3.enc_len) (by have := HQN.out; have := HALL.out.1.length_eq; have := HN.out.t; unfold maxLen; omega) (by have := HQN.out; have := HALL.out.1.length_eq; have := HN.out.t; omega) (show Below w.heap.size w _ from (by with_reducible repeat (first | exact Below.refl _ _ | assumption | refine Below.drew ?_ | refine qa1 ?_ _ | refine Below.alloc ?_ (by first | omega | simp <;> omega) _ | refine Below.setCell ?_ (by first | omega | simp <;> omega) _))).size ?_; intro A7 c7 w7 hown7 hgr7 hloc7; have ST7 : Below w.heap.size w w7 := (by refine Below.grown ?_ hgr7 ?_ HROW.out; exact (by with_reducible repeat (first | exact Below.refl _ _ | assumption | refine Below.drew ?_ | refine qa1 ?_ _ | refine Below.alloc ?_ (by first | omega | simp <;> omega) _ | refine Below.setCell ?_ (by first | omega | simp <;> omega) _)); exact (show Below w.heap.size w _ from (by with_reducible repeat (first | exact Below.refl _ _ | assumption | refine Below.drew ?_ | refine qa1 ?_ _ | refine Below.alloc ?_ (by first | omega | simp <;> omega) _ | refine Below.setCell ?_ (by first | omega | simp <;> omega) _))).size))); all_goals
   have hll := HALL.out.1.length_eq; have hln : l1.length + Q.length ≤ 100000 := by have := HQN.out; have := HN.out.t; omega
   go_wp2_with fail; go_meet; refine ⟨A7, c7, l1 ++ Q, by rw [List.length_append], by rw [List.length_append]; simp, rfl, ?_, ⟨fun x => by rw [List.mem_append, HALL.out.1.mem_iff, ← HQ.out], by rw [List.length_append]; exact hln⟩, ?_⟩
   · first | with_reducible exact hown7 | with_reducible exact hown7.drew
   · exact (by with_reducible repeat (first | exact Below.refl _ _ | assumption | refine Below.drew ?_ | refine qa1 ?_ _ | refine Below.alloc ?_ (by first | omega | simp <;> omega) _ | refine Below.setCell ?_ (by first | omega | simp <;> omega) _))
 obtain ⟨A, c, l, rfl, rfl, rfl, hown, hlk, hb⟩ := hcut; obtain ⟨w1, hw1⟩ : ∃ x, x = wc := ⟨_, rfl⟩; subst hw1; have HO := hid hown; have HL := hid hlk; have HB1 := hid hb; have hm := hown.max; have hcl := hown.len; have hll := hlk.2; have HHU : Hid (qkv M line = (l.any (fun x => x.line == line) || M.bag.any fun e => e.line == line || e.anti == line)) := hid (by
  rw [qkv, ← Bool.or_assoc]
  congr 1
  rw [← List.any_append, Bool.eq_iff_iff, List.any_eq_true, List.any_eq_true]
  constructor
  · rintro ⟨x, hx, hy⟩; exact ⟨x, (hlk.1 x).2 (List.mem_append.1 hx), hy⟩
  · rintro ⟨x, hx, hy⟩; exact ⟨x, List.mem_append.2 ((hlk.1 x).1 hx), hy⟩)
 clear hown hlk hb q5 q7 HK HTA HLA HQ HQN; go_wp2_with fail; go_loopw [21] (fun v21 wr => ∃ k : Nat, k ≤ l.length ∧ v21 = .int .i64 k ∧ (∀ i (hi : i < l.length), i < k → (l[i].line == line) = false) ∧ Below w1.heap.size w1 wr) (fun v21 _ => l.length - (intOf v21).toNat)
 case atStart => exact ⟨0, Nat.zero_le _, rfl, fun i _ hi => absurd hi (Nat.not_lt_zero i), Below.refl _ _⟩
 case round =>
  obtain ⟨k, hkl, rfl, hno, hbr⟩ := hrel; have HNO := hid hno; have HBR := hid hbr; clear hno; by_cases hlt : k < l.length
  · obtain ⟨b, off, rfl, hB, k0, k1, k2, k3, k4⟩ := ((HO.out.below hbr).arr qa3.enc_len).link hlt
    have i1 : (0 : Int) ≤ (k : Int) := by omega
    have i2 : (k : Int) < (l.length : Int) := by omega
    clear hbr; cases hc : (l[k].line == line) with
    | true =>
     have HC := hid hc; go_wp2_with fail; go_ret; exact ⟨by rw [HHU.out, qkn hlt HC.out]; rfl, (HB1.out.trans (HBR.out.mono HB1.out.size)).alloc (by have := HB1.out.size; have := HBR.out.size; omega) _⟩
    | false =>
     have HC := hid hc; go_wp2_with fail; exact ⟨⟨k + 1, by omega, by go_num, fun i hi h2 => (by
      by_cases hik : i = k
      · subst hik; exact HC.out
      · exact HNO.out i hi (by omega)), HBR.out.alloc HBR.out.size _⟩, by simp [intOf]; omega⟩
  · obtain rfl : k = l.length := by omega
    have HB2 := hid (HB1.out.trans (HBR.out.mono HB1.out.size)); have H2 := H.out.below HB2.out; have q4 := H2.cells.2.2.2.2.1; have hla2 := qa0 H2.box.1; have HH2 : Hid (qkv M line = M.bag.any fun e => e.line == line || e.anti == line) := hid (by rw [HHU.out, qu2 (fun i hi => HNO.out i hi hi), Bool.false_or]); obtain ⟨Ab, cb, hbag, _, _⟩ := H2.bag; have TB := hid (qr5 wr 0 P.bp Ab cb M.bag hbag (by have := HN.out.b; omega)); have HBL := hid HN.out.b; obtain ⟨E, hE⟩ : ∃ E, E = M.bag := ⟨_, rfl⟩; rw [← hE] at HH2 TB HBL; clear hbag hE H2 HNO HBR hbr HO HL hm hcl hll hkl HHU; go_wp2_with fail; refine TB.out.mono ?_; rintro e w3 ⟨Ae, ce, rfl, hown, hb3⟩; have HO := hid hown; have HB3 := hid (HB2.out.trans (hb3.mono HB2.out.size)); have hm := hown.max; have hcl := hown.len; have hel := HBL.out; clear hown hb3 q4 hla2 TB; go_wp2_with fail; go_loopw [36] (fun v36 wr => ∃ k : Nat, k ≤ E.length ∧ v36 = .int .i64 k ∧ (∀ i (hi : i < E.length), i < k → (E[i].line == line || E[i].anti == line) = false) ∧ Below w3.heap.size w3 wr) (fun v36 _ => E.length - (intOf v36).toNat)
    case atStart => exact ⟨0, Nat.zero_le _, rfl, fun i _ hi => absurd hi (Nat.not_lt_zero i), Below.refl _ _⟩
    case round =>
     rename_i wq; obtain ⟨k, hkl, rfl, hno, hbr⟩ := hrel; have HNO := hid hno; have HBR := hid hbr; clear hno; by_cases hlt : k < E.length
     · obtain ⟨b, off, rfl, hB, k0, k1, k2, k3, k4⟩ := ((HO.out.below hbr).arr EntC.enc_len).entry hlt
       have i1 : (0 : Int) ≤ (k : Int) := by omega
       have i2 : (k : Int) < (E.length : Int) := by omega
       clear hbr; cases hc : (E[k].line == line) with
       | true =>
        have HC := hid hc; go_wp2_with fail; go_ret; exact ⟨by rw [HH2.out, qkn hlt (by rw [HC.out, Bool.true_or])]; rfl, (HB3.out.trans (HBR.out.mono HB3.out.size)).alloc (by have := HB3.out.size; have := HBR.out.size; omega) _⟩
       | false =>
        cases hc2 : (E[k].anti == line) with
        | true =>
         have HC := hid hc; have HC2 := hid hc2; go_wp2_with fail; go_ret; exact ⟨by rw [HH2.out, qkn hlt (by rw [HC2.out, Bool.or_true])]; rfl, (HB3.out.trans (HBR.out.mono HB3.out.size)).alloc (by have := HB3.out.size; have := HBR.out.size; omega) _⟩
        | false =>
         have HC := hid hc; have HC2 := hid hc2; go_wp2_with fail; exact ⟨⟨k + 1, by omega, by go_num, fun i hi h2 => (by
          by_cases hik : i = k
          · subst hik; rw [HC.out, HC2.out]; rfl
          · exact HNO.out i hi (by omega)), HBR.out.alloc HBR.out.size _⟩, by simp [intOf]; omega⟩
     · obtain rfl : k = E.length := by omega
       clear hbr; go_wp2_with fail; go_ret; exact ⟨by rw [HH2.out, qu2 (fun i hi => HNO.out i hi hi)]; rfl, HB3.out.trans (HBR.out.mono HB3.out.size)⟩
end
end
end Go.Proofs.YtecikkjbnkhhkaaGreat
