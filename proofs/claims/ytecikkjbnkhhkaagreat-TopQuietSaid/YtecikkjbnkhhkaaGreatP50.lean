/- A part of the walk. -/
import Derived.Test.YtecikkjbnkhhkaaGreatP49
namespace Go.Proofs.YtecikkjbnkhhkaaGreat
open _root_.Go.Proofs.Tryz
set_option maxHeartbeats 4000000
set_option maxRecDepth 100000
section
open Go.RowKit
section
variable {g : Own8} {w : World} {wb a t : Nat} {P : qag} {M : qa4} {c : CfgC} {T : List ThrC} {D : Nat → FrD} {steps : Int} {sA : Option Addr} {sc : Nat} {S : List qap}
theorem qpk (h : WAt g w wb a P M c T D steps sA sc S) (hth : c.th ≤ 4) (ht : t < c.th) (htT : t < T.length) (k l : Int) (cl : qa7) (kA : Option Addr) (kn kc : Nat) (hbusy : T[t].busy = true) :
 Calls prog 53 #[.pointer (some ⟨wb, 0, none⟩), .agg (evL k (t : Int) l cl kA kn kc).toArray] w (fun e w' => e = .returned (.int .i64 7) ∧ Below w.heap.size w w') := by
 have H := hid h; clear h; unfold evL; go_enter func53, ntmps53; go_upto_region 1 with fail; generalize hw1 : World.alloc _ _ = w1; have R0 : w1.heap[w.heap.size]? = some (.cells (evL k (t : Int) l cl kA kn kc).toArray 42 (0, 0)) := by rw [← hw1]; exact qaq _ _
 have b1 : Below w.heap.size w w1 := by rw [← hw1]; exact (Below.refl _ _).alloc (Nat.le_refl _) _
 have h1 := H.out.below b1; have k1 : w1.cell? ⟨w.heap.size, 1, none⟩ = some (.int .i64 (t : Int)) := cell_of_row w1 _ 1 _ _ _ R0; have TT := hid (qdn h1.bx t ht hth); have HB1 := hid b1; have hbz : w1.cell? ⟨wb, 8 + t * 30, none⟩ = some (.bool true) := by have := h1.bx.thr htT 0 (by omega) rfl; rw [← hbusy]; exact this
 clear hw1 b1 R0 h1; go_wp2_with fail; refine TT.out.mono ?_; rintro e w2 ⟨rfl, he⟩; rw [he]; clear he TT; go_wp2_with fail; go_ret; exact ⟨rfl, HB1.out⟩
theorem qpj (h : WAt g w wb a P M c T D steps sA sc S) (hth : c.th ≤ 4) (ht : t < c.th) (htT : t < T.length) (k l : Int) (cl : qa7) (kA : Option Addr) (kn kc : Nat) (hbusy : T[t].busy = false) :
 Calls prog 54 #[.pointer (some ⟨wb, 0, none⟩), .agg (evL k (t : Int) l cl kA kn kc).toArray] w (fun e w' => e = .returned (.int .i64 12) ∧ Below w.heap.size w w') := by
 have H := hid h; clear h; unfold evL; go_enter func54, ntmps54; go_upto_region 1 with fail; generalize hw1 : World.alloc _ _ = w1; have R0 : w1.heap[w.heap.size]? = some (.cells (evL k (t : Int) l cl kA kn kc).toArray 42 (0, 0)) := by rw [← hw1]; exact qaq _ _
 have b1 : Below w.heap.size w w1 := by rw [← hw1]; exact (Below.refl _ _).alloc (Nat.le_refl _) _
 have h1 := H.out.below b1; have k1 : w1.cell? ⟨w.heap.size, 1, none⟩ = some (.int .i64 (t : Int)) := cell_of_row w1 _ 1 _ _ _ R0; have TT := hid (qdn h1.bx t ht hth); have HB1 := hid b1; have hbz : w1.cell? ⟨wb, 8 + t * 30, none⟩ = some (.bool false) := by have := h1.bx.thr htT 0 (by omega) rfl; rw [← hbusy]; exact this
 clear hw1 b1 R0 h1; go_wp2_with fail; refine TT.out.mono ?_; rintro e w2 ⟨rfl, he⟩; rw [he]; clear he TT; go_wp2_with fail; go_ret; exact ⟨rfl, HB1.out⟩
end
end
section
open Go.RowKit Go.MapKept
open Go.ChangeMaps (setBlock)
def doN : Nat → Nat
 | 0 => 53
 | 1 => 54
 | 2 => 55
 | 3 => 56
 | 4 => 57
 | _ => 58
def fnV (n : Nat) : Value := .func (.func n) #[] #[]
def doE1 (i : Nat) : MapEntry := { key := .int .i64 ((i : Int) + 1), val := fnV (doN i), born := i }
def DoM (w : World) (r n : Nat) : Prop := w.heap[r]? = some (.map ((List.range n).map doE1).toArray n)
theorem qti (n m : Nat) (hn : n ≤ 6) (hm : m < 6) : Instr.findNow (.int .i64) (.int .i64 ((m : Int) + 1)) ((List.range n).map doE1) 0 = some (if m < n then some (m, fnV (doN m)) else none) := by
 rcases (by omega : n = 0 ∨ n = 1 ∨ n = 2 ∨ n = 3 ∨ n = 4 ∨ n = 5 ∨ n = 6) with rfl | rfl | rfl | rfl | rfl | rfl | rfl <;>
  rcases (by omega : m = 0 ∨ m = 1 ∨ m = 2 ∨ m = 3 ∨ m = 4 ∨ m = 5) with rfl | rfl | rfl | rfl | rfl | rfl <;> rfl
section
variable {w : World} {r n : Nat}
theorem qj7 (h : DoM w r n) (hn : n < 6) : ∃ w' : World, (Instr.mapUpdate 98 (.map (some r)) (.int .i64 ((n : Int) + 1)) (fnV (doN n))).run prog w = .ok () w' ∧ DoM w' r (n + 1) ∧ w.grownBy w' (some r) ∧ w'.heap.size = w.heap.size := by
 have hb : w.heap[r]? = _ := h; have ht : prog.underlying 98 = some (.map 3 96) := underlying98; have hs : prog.underlying 3 = some (.int .i64) := underlying3; have h1 := qti n n (by omega) hn; rw [if_neg (Nat.lt_irrefl _)] at h1; refine ⟨setBlock w r (.map ((((List.range n).map doE1).toArray).push { key := .int .i64 ((n : Int) + 1), val := fnV (doN n), born := n }) (n + 1)), ?_, ?_, qe8 hb, by simp [setBlock]⟩
 · simp [Instr.mapUpdate, run_underlying ht, MapKept.run_getObj_map hb, run_checkKey hs (k := .int .i64 ((n : Int) + 1)) (by first | rfl | simp [IsKey]), run_findKey hs h1, MapKept.run_setObj_map _ hb, Result.andThen, setBlock]
 · refine (heap_set hb).1.trans ?_
   rw [List.range_succ, List.map_append]; simp [doE1]
theorem qzg (h : DoM w r 6) {m : Nat} (hm : m < 6) : (Instr.lookup 98 (.map (some r)) (.int .i64 ((m : Int) + 1)) true).run prog w = .ok (.tuple #[fnV (doN m), .bool true]) w := by
 have hb : w.heap[r]? = _ := h; have ht : prog.underlying 98 = some (.map 3 96) := underlying98; have hs : prog.underlying 3 = some (.int .i64) := underlying3; have h1 := qti 6 m (by omega) hm; rw [if_pos hm] at h1; simp [Instr.lookup, run_underlying ht, MapKept.run_getObj_map hb, run_checkKey hs (k := .int .i64 ((m : Int) + 1)) (by first | rfl | simp [IsKey]), run_findKey hs h1, Result.andThen]
theorem qsf (W : World) : (Instr.makeMap 98 none).run prog W = .ok (.map (some W.heap.size)) (W.alloc (.map #[] 0)) := by kernel_rfl
theorem qqo (w : World) : Calls prog 34 #[] w fun e w' => ∃ r, e = .returned (.map (some r)) ∧ DoM w' r 6 ∧ Below w.heap.size w w' := by
 have MM := qsf w; have m0 : DoM (w.alloc (.map #[] 0)) w.heap.size 0 := qaq _ _; have b0 : Below w.heap.size w (w.alloc (.map #[] 0)) := (Below.refl _ _).alloc (Nat.le_refl _) _; generalize w.alloc (.map #[] 0) = w0 at MM m0 b0; obtain ⟨r, hr⟩ : ∃ r, r = w.heap.size := ⟨_, rfl⟩; rw [← hr] at MM m0; obtain ⟨w1, p1, m1, g1, z1⟩ := qj7 m0 (by omega); obtain ⟨w2, p2, m2, g2, z2⟩ := qj7 m1 (by omega); obtain ⟨w3, p3, m3, g3, z3⟩ := qj7 m2 (by omega); obtain ⟨w4, p4, m4, g4, z4⟩ := qj7 m3 (by omega); obtain ⟨w5, p5, m5, g5, z5⟩ := qj7 m4 (by omega); obtain ⟨w6, p6, m6, g6, z6⟩ := qj7 m5 (by omega); have hg : ∀ {u v : World}, Below w.heap.size w u → u.grownBy v (some r) → Below w.heap.size w v := fun {u v} hb hg =>
  ⟨hg.os.trans hb.os, hg.tape.trans hb.tape, hg.output.trans hb.output, Nat.le_trans hb.size hg.size, fun i hi => (hg.block i (by have := hb.size; omega) (fun e => by cases e; omega)).trans (hb.block i hi)⟩
 have b6 := hid (hg (hg (hg (hg (hg (hg b0 g1) g2) g3) g4) g5) g6); have M6 := hid m6; clear hr m0 m1 m2 m3 m4 m5 m6 g1 g2 g3 g4 g5 g6 z1 z2 z3 z4 z5 z6 b0 hg; rw [show ((0 : Nat) : Int) + 1 = 1 from rfl] at p1; rw [show ((0 + 1 : Nat) : Int) + 1 = 2 from rfl] at p2; rw [show ((0 + 1 + 1 : Nat) : Int) + 1 = 3 from rfl] at p3; rw [show ((0 + 1 + 1 + 1 : Nat) : Int) + 1 = 4 from rfl] at p4; rw [show ((0 + 1 + 1 + 1 + 1 : Nat) : Int) + 1 = 5 from rfl] at p5; rw [show ((0 + 1 + 1 + 1 + 1 + 1 : Nat) : Int) + 1 = 6 from rfl] at p6; simp only [fnV, doN] at p1 p2 p3 p4 p5 p6; go_enter func34, ntmps34; go_wp2_with fail; go_ret; exact ⟨r, rfl, M6.out, b6.out⟩
end
end
section
open Go.RowKit
section
variable {g : Own8} {w : World} {wb a : Nat} {P : qag} {M : qa4} {c : CfgC} {T : List ThrC} {D : Nat → FrD} {steps : Int} {sA : Option Addr} {sc : Nat} {S : List qap} {Q : Int → qa4 → List ThrC → (Nat → FrD) → List qap → Prop}
def qyi (Q : Int → qa4 → List ThrC → (Nat → FrD) → List qap → Prop) (wb a : Nat) (P : qag) (c : CfgC) (steps : Int) (r : Option Nat) (g : Own8) (w : World) (e : Ending) (w' : World) : Prop := ∃ steps', steps ≤ steps' ∧ steps' ≤ steps + 1 ∧ qo9 Q wb a P c steps' r g w e w'
theorem WAt.step1 (h : WAt g w wb a P M c T D steps sA sc S) (v : Int) : WAt g (w.setCell ⟨wb, 128, none⟩ (.int .i64 v)) wb a P M c T D v sA sc S :=
 h.rebox ⟨rfl, rfl, rfl, World.size_setCell ..⟩ (fun j hj => Below.heap_setCell _ _ _ _ hj) (h.bx.setTail (j := 0) (by omega) _ rfl) h.thr
theorem qaz.cellB (g : Own8) (w : World) (wb : Nat) (r : Option Nat) (o : Nat) (v : Value) : qaz g w wb r g (w.setCell ⟨wb, o, none⟩ v) r :=
 .box ⟨rfl, rfl, rfl, World.size_setCell ..⟩ fun _j hj => Below.heap_setCell _ _ _ _ hj
theorem qh1 (h : WAt g w wb a P M c T D steps sA sc S) (hstep : steps + 1 ≤ 1000000 ∧ 0 ≤ steps) {κ : Int} {m : Nat} (hκ : κ = (m : Int) + 1) (hm : m = 0 ∨ m = 1 ∨ m = 3) {t l : Int} {cl : qa7} {kA : Option Addr} {kn kc : Nat}
 (HC : ∀ W, Below w.heap.size w W → Calls prog (doN m) #[.pointer (some ⟨wb, 0, none⟩), .agg (evL κ t l cl kA kn kc).toArray] W (qo9 Q wb a P c steps (qa8 sA sc) g W)) :
 Calls prog 14 #[.pointer (some ⟨wb, 0, none⟩), .agg (evL κ t l cl kA kn kc).toArray] w (qyi Q wb a P c steps (qa8 sA sc) g w) := by
 have H := hid h; have HHC := hid HC; have HK := hid hκ; have hws : IntKind.i64.wrap (steps + 1) = steps + 1 := Go.IntWalk.i64_in _ (by omega); clear h HC hκ; unfold evL; go_enter func14, ntmps14; go_upto_region 1 with fail; generalize hw1 : World.alloc _ _ = w1; have R0 : w1.heap[w.heap.size]? = some (.cells (evL κ t l cl kA kn kc).toArray 42 (0, 0)) := by rw [← hw1]; exact qaq _ _
 have b1 : Below w.heap.size w w1 := by rw [← hw1]; exact (Below.refl _ _).alloc (Nat.le_refl _) _
 have hl0 := qa0 R0; have k0 : w1.cell? ⟨w.heap.size, 0, none⟩ = some (.int .i64 κ) := cell_of_row w1 _ 0 _ _ _ R0; have HB1 := hid b1; have HR0 := hid R0; have hz1 := b1.size; have hm6 : m < 6 := by omega
 clear hw1 b1 R0; go_cut [5, 6] (fun v5 v6 wx => v5 = fnV (doN m) ∧ v6 = .bool true ∧ Below w.heap.size w wx ∧ wx.heap[w.heap.size]? = some (.cells (evL κ t l cl kA kn kc).toArray 42 (0, 0)))
 case first =>
  go_region_held3 (fun W => W.cell? ⟨w.heap.size, 0, none⟩ = some (.int .i64 κ)) (first | (with_reducible exact k0) | (with_reducible exact HSK) | go_keep) (first | (go_at_call 34; refine (qqo _).mono ?_; rintro e w5 ⟨r, rfl, m5, b5⟩; have HSK := (b5.cell (p := ⟨w.heap.size, 0, none⟩) hl0).trans k0; have HLK := qzg m5 hm6; rw [← HK.out] at HLK; have HB5 := hid b5; clear m5 b5)); all_goals
   go_wp2_with fail; go_meet; exact ⟨rfl, rfl, HB1.out.drew.trans (HB5.out.mono hz1), (HB5.out.block _ hl0).trans HR0.out⟩
 obtain ⟨rfl, rfl, bc, rc⟩ := hcut; obtain ⟨w3, hw3⟩ : ∃ x, x = wc := ⟨_, rfl⟩; subst hw3; have c0 : w3.cell? ⟨w.heap.size, 0, none⟩ = some (.int .i64 κ) := cell_of_row w3 _ 0 _ _ _ rc; have c1 : w3.cell? ⟨w.heap.size, 1, none⟩ = some (.int .i64 t) := cell_of_row w3 _ 1 _ _ _ rc; have c2 : w3.cell? ⟨w.heap.size, 2, none⟩ = some (.int .i64 l) := cell_of_row w3 _ 2 _ _ _ rc; have c3 : w3.cell? ⟨w.heap.size, 3, none⟩ = some (.int .i64 cl.kind) := cell_of_row w3 _ 3 _ _ _ rc; have c4 : w3.cell? ⟨w.heap.size, 4, none⟩ = some (.string cl.key) := cell_of_row w3 _ 4 _ _ _ rc; have c5 : w3.cell? ⟨w.heap.size, 5, none⟩ = some (.string cl.val) := cell_of_row w3 _ 5 _ _ _ rc; have c6 : w3.cell? ⟨w.heap.size, 6, none⟩ = some (.string cl.tx) := cell_of_row w3 _ 6 _ _ _ rc; have c7 : w3.cell? ⟨w.heap.size, 7, none⟩ = some (.slice cl.gA cl.gn cl.gc) := cell_of_row w3 _ 7 _ _ _ rc; have c8 : w3.cell? ⟨w.heap.size, 8, none⟩ = some (.slice kA kn kc) := cell_of_row w3 _ 8 _ _ _ rc; have HCC := hid (HHC.out w3 bc); have HBC := hid bc; clear k0 rc bc HR0 HB1 hl0 hm6; rcases hm with rfl | rfl | rfl
 all_goals
  simp only [fnV, doN]; go_wp2_with fail; refine HCC.out.mono ?_; rintro e w5 ⟨code, rfl, g', M', T', D', sA', sc', S', hQ, hW, hKw⟩; have HW := hid hW; have HKW := hid ((qaz.below HBC.out).trans hKw); clear hW hKw; rcases Classical.em (code = 0) with rfl | hne
  · have n0 : w5.cell? ⟨wb, 128, none⟩ = some (.int .i64 steps) := HW.out.bx.tail 0 rfl
    have nf := HW.out.bx.fr; have hl5 := HW.out.bx.lt; go_wp2_with fail; go_ret; exact ⟨steps + 1, by omega, by omega, 0, rfl, g', M', T', D', sA', sc', S', hQ, HW.out.step1 _, HKW.out.trans (qaz.cellB _ _ _ _ _ _)⟩
  · have hd : decide (code = 0) = false := decide_eq_false hne
    go_wp2_with fail; go_ret; exact ⟨steps, by omega, by omega, code, rfl, g', M', T', D', sA', sc', S', hQ, HW.out, HKW.out⟩
end
end
section
open Go.RowKit
theorem qyx (n th : Nat) (rest : Int) (dp a : Nat) : (((((((Tryz.zeroCells94.setIfInBounds 0 (Value.int IntKind.i64 n)).setIfInBounds 1 (Value.int IntKind.i64 th)).setIfInBounds 2 (Value.int IntKind.i64 rest)).setIfInBounds 3 (Value.pointer (some ⟨dp, 0, none⟩))).setIfInBounds 4 (Value.pointer (some ⟨a, 0, none⟩))).setIfInBounds 6 (Value.int IntKind.i64 0)).setIfInBounds 7 (Value.int IntKind.i64 rest)) = (wldC ⟨n, th, rest⟩ dp a (List.replicate 4 thr0) 0 none 0 0).toArray := by kernel_rfl
theorem qog (n th : Nat) (rest : Int) (w : World) (h1 : 18 ≤ n) (h2 : n ≤ 250) (t1 : 1 ≤ th) (t2 : th ≤ 4) (r1 : 0 ≤ rest ∧ rest ≤ 10000) : Calls prog 12 #[.agg #[.int .i64 (n : Int), .int .i64 (th : Int), .int .i64 rest]] w fun e w' =>
 ∃ wb a P g, e = .returned (.tuple #[.pointer (some ⟨wb, 0, none⟩), .int .i64 0]) ∧ WAt g w' wb a P (newM n th) ⟨n, th, rest⟩ (List.replicate 4 thr0) (fun _ => d0) 0 none 0 [] ∧ Below w.heap.size w w' ∧ w.heap.size ≤ wb ∧ ∀ b, b < w.heap.size → g b = 0 := by
 have d1 : decide (rest < 0) = false := decide_eq_false (by omega); have d2 : decide ((10000 : Int) < rest) = false := decide_eq_false (by omega); go_enter func12, ntmps12; go_upto_region 1 with fail; generalize hw1 : World.alloc _ _ = w1; have R0 : w1.heap[w.heap.size]? = some (.cells #[.int .i64 (n : Int), .int .i64 (th : Int), .int .i64 rest] 27 (0, 0)) := by rw [← hw1]; exact qaq _ _
 have b1 : Below w.heap.size w w1 := by rw [← hw1]; exact (Below.refl _ _).alloc (Nat.le_refl _) _
 have hl0 := qa0 R0; have k0 : w1.cell? ⟨w.heap.size, 0, none⟩ = some (.int .i64 (n : Int)) := cell_of_row w1 _ 0 _ _ _ R0; have k1 : w1.cell? ⟨w.heap.size, 1, none⟩ = some (.int .i64 (th : Int)) := cell_of_row w1 _ 1 _ _ _ R0; have k2 : w1.cell? ⟨w.heap.size, 2, none⟩ = some (.int .i64 rest) := cell_of_row w1 _ 2 _ _ _ R0; have HB1 := hid b1; have HR0 := hid R0; clear hw1 b1 R0; go_wp2_with fail; refine (qtz n th w1 h1 h2 t1 t2).mono ?_; rintro e w2 ⟨a, P, g, rfl, har, hb2, ha, hg⟩; have HAR := hid har; have HB2 := hid hb2; have HA := hid ha; have HG := hid hg; have hz1 := HB1.out.size; have HQ := hid ((hb2.block _ hl0).trans HR0.out); have q0 : w2.cell? ⟨w.heap.size, 0, none⟩ = some (.int .i64 (n : Int)) := (hb2.cell (p := ⟨w.heap.size, 0, none⟩) hl0).trans k0; have q1 : w2.cell? ⟨w.heap.size, 1, none⟩ = some (.int .i64 (th : Int)) := (hb2.cell (p := ⟨w.heap.size, 1, none⟩) hl0).trans k1; have q2 : w2.cell? ⟨w.heap.size, 2, none⟩ = some (.int .i64 rest) := (hb2.cell (p := ⟨w.heap.size, 2, none⟩) hl0).trans k2; have DV := hid (fun W (hW : Below w2.heap.size w2 W) => qek (har.below hW)); clear har hb2 ha hg k0 k1 k2 hl0 d1 d2; go_upto_region 6 with fail; go_region_held3 (fun W => W.cell? ⟨w.heap.size, 0, none⟩ = some (.int .i64 (n : Int)) ∧ W.cell? ⟨w.heap.size, 1, none⟩ = some (.int .i64 (th : Int)) ∧ W.cell? ⟨w.heap.size, 2, none⟩ = some (.int .i64 rest)) (first | (with_reducible exact HSK) | (with_reducible exact ⟨q0, q1, q2⟩) | go_keep) (first | (go_at_call 32; refine (DV.out _ (by first | exact Below.refl _ _ | exact (Below.refl _ _).drew)).mono ?_; rintro e w5 ⟨rfl, he⟩; rw [he])); have hrow := qyx n th rest P.dp a; have hal : ∀ W : World, W.heap = w2.heap → Below w2.heap.size w2 W → (W.alloc (.cells (wldC ⟨n, th, rest⟩ P.dp a (List.replicate 4 thr0) 0 none 0 0).toArray 94)).heap[w2.heap.size]? = some (.cells (wldC ⟨n, th, rest⟩ P.dp a (List.replicate 4 thr0) 0 none 0 0).toArray 94 (0, 0)) := fun W hW _ => by rw [← hW]; exact qaq _ _
 all_goals
  rw [hrow]; generalize hw3 : World.alloc _ _ = w3; have R3 : w3.heap[w2.heap.size]? = some (.cells (wldC ⟨n, th, rest⟩ P.dp a (List.replicate 4 thr0) 0 none 0 0).toArray 94 (0, 0)) := by rw [← hw3]; exact hal _ rfl (Below.refl _ _)
  have b3 : Below w2.heap.size w2 w3 := by rw [← hw3]; exact (Below.refl _ _).alloc (Nat.le_refl _) _
  have HR3 := hid R3; have HB3 := hid b3.drew; clear hw3 R3 b3 hrow hal; go_wp2_with fail; go_ret2; have har3 := HAR.out.below HB3.out; have hz := HB2.out.size; refine ⟨w2.heap.size, a, P, g, rfl, ⟨har3, ⟨HR3.out, rfl⟩, HAR.out.far _ (Nat.le_refl _), ⟨⟨Nat.zero_le _, by decide, .inl rfl⟩, fun j hj => (by cases hj), fun e => (by cases e)⟩, fun i hi => ?_⟩, (HB1.out.trans (HB2.out.mono hz1)).trans (HB3.out.mono (by omega)), by omega, fun b hb => HG.out b (by omega)⟩; have e : (List.replicate 4 thr0)[i].f = qt5 := by rw [List.getElem_replicate]; rfl
  rw [e]; exact qAz
end
section
open Go.RowKit
section
variable {g : Own8} {w : World} {wb a : Nat} {P : qag} {M : qa4} {c : CfgC} {T : List ThrC} {D : Nat → FrD} {steps : Int} {sA : Option Addr} {sc : Nat} {S : List qap}
theorem qfj (h : WAt g w wb a P M c T D steps sA sc S) : Calls prog 36 #[.pointer (some ⟨wb, 0, none⟩)] w fun e w' => e = .returned (.pointer (some ⟨a, 0, none⟩)) ∧ w' = w := by
 have c4 := h.bx.head 4 (by omega) rfl; clear h; go_enter func36, ntmps36; go_wp2_with fail; go_ret; exact ⟨rfl, rfl⟩
theorem qmm (h : WAt g w wb a P M c T D steps sA sc S) : Calls prog 24 #[.pointer (some ⟨wb, 0, none⟩)] w fun e w' => e = .returned (.int .i64 0) ∧ w' = w := by
 have c7 := h.bx.tail 1 rfl; clear h; go_enter func24, ntmps24; go_wp2_with fail; go_ret; exact ⟨rfl, rfl⟩
theorem qv4 (h : WAt g w wb a P M c T D steps sA sc S) : Calls prog 22 #[.pointer (some ⟨wb, 0, none⟩)] w fun e w' => e = .returned (.int .u64 (M.now : Int)) ∧ w' = w := by
 have T1 := hid (qfj h); have T2 := hid (qcr h.ar); have T3 := hid (qkh h.ar.clk.1); clear h; go_enter func22, ntmps22; go_wp2_with fail; refine T1.out.mono ?_; rintro e w1 ⟨rfl, he⟩; rw [he]; go_wp2_with fail; refine T2.out.mono ?_; rintro e w1 ⟨rfl, he⟩; rw [he]; go_wp2_with fail; refine T3.out.mono ?_; rintro e w1 ⟨rfl, he⟩; rw [he]; go_wp2_with fail; go_ret; exact ⟨rfl, rfl⟩
theorem qv5 (h : WAt g w wb a P M c T D steps sA sc S) : Calls prog 23 #[.pointer (some ⟨wb, 0, none⟩)] w fun e w' => e = .returned (.int .u64 (M.dur : Int)) ∧ w' = w := by
 have T1 := hid (qfj h); have T2 := hid (qcr h.ar); have T3 := hid (qx1 h.ar.clk.1); clear h; go_enter func23, ntmps23; go_wp2_with fail; refine T1.out.mono ?_; rintro e w1 ⟨rfl, he⟩; rw [he]; go_wp2_with fail; refine T2.out.mono ?_; rintro e w1 ⟨rfl, he⟩; rw [he]; go_wp2_with fail; refine T3.out.mono ?_; rintro e w1 ⟨rfl, he⟩; rw [he]; go_wp2_with fail; go_ret; exact ⟨rfl, rfl⟩
end
end
section
open Go.RowKit Go.Deep Go.ChangeShapes Go.WideShapes
theorem qx9 {α : Type} [Inhabited α] {enc : α → List Value} {k : Nat} {H : Type} {en : TypeId × Value → H} {P : Program} {w : World} {sp : Nat → Bool} {held : Bool} {fuel : Nat} {t e : TypeId} {v : Value} {x : DataW H × List MemPlace}
 (ht : P.underlying t = some (.slice e)) (hk : P.cellsOf e = k) (hk0 : 0 < k) (henc : ∀ a, (enc a).length = k) (Q : α → Prop) (hel : ∀ n cs y, DataW.trod en P w 0 sp held n e cs = some y → ∃ a : α, cs = enc a ∧ Q a)
 (h : DataW.trod en P w 0 sp held fuel t [v] = some x) :
 ∃ (A : Option Addr) (l : List α) (c : Nat), v = .slice A l.length c ∧ Arr enc k w w.heap.size A l ∧ l.length ≤ c ∧ c ≤ 9223372036854775807 ∧ ∀ a ∈ l, Q a := by
 rcases open_slice ht h with ⟨h0, _⟩ | ⟨a, len, cap, m, n, D, Pl, h0, _, hl, hm, hmm, _, hx⟩
 · cases h0
   exact ⟨none, [], 0, rfl, Arr.nil, Nat.le_refl _, by omega, by simp⟩
 · cases h0
   have hlm : len ≤ m := by rw [hmm]; split <;> omega
   obtain ⟨f, hf⟩ := choose_lt (α := α) (n := len) (p := fun i b => w.cells? 0 (a.add (i * P.cellsOf e)) (P.cellsOf e) = some (enc b) ∧ Q b) (fun i hi => by
    obtain ⟨cs', h1, h2⟩ := hx i (by omega)
    obtain ⟨b, rfl, hq⟩ := hel _ _ _ h2
    exact ⟨b, h1, hq⟩)
   have hcap : cap ≤ 9223372036854775807 := by unfold maxLen at hm; omega
   refine ⟨some a, (List.range len).map f, cap, by simp, ?_, by simpa using hl, hcap, ?_⟩
   · rcases Nat.eq_zero_or_pos len with h0 | h0
     · exact .inl (by simp [h0])
     · have hc : ∀ i, i < len → ∀ j (u : Value), (enc (f i))[j]? = some u → w.cell? ((a.add (i * k)).add j) = some u := fun i hi j u hu => by
        obtain ⟨_, _, h3⟩ := World.cells?_some (hf i hi).1; rw [hk] at h3; have hj := (List.getElem?_eq_some_iff.1 hu).1; rw [henc] at hj; rw [h3 j hj]; exact hu
       have h00 := hc 0 h0 0 _ (List.getElem?_eq_getElem (by rw [henc]; exact hk0)); obtain ⟨b, off, spot⟩ := a; have hspot : spot = none := by simpa [Addr.add] using World.cell?_spot h00
       subst hspot; have hb := block_lt_of_cell h00; simp [Addr.add] at hb; refine .inr ⟨b, off, rfl, hb, fun i hi j u hu => ?_⟩; simp at hi; have := hc i hi j u (by simpa using hu); rw [Addr.add_lit, Addr.add_lit] at this; exact this
   · intro b hb
     simp only [List.mem_map, List.mem_range] at hb; obtain ⟨i, hi, rfl⟩ := hb; exact (hf i hi).2
section
variable {H : Type} {en : TypeId × Value → H} {w : World} {sp : Nat → Bool} {held : Bool}
theorem qAo {α : Type} {l : List α} (h : l.length = 5) : ∃ a b c d e, l = [a, b, c, d, e] := by
 match l, h with
 | [a, b, c, d, e], _ => exact ⟨a, b, c, d, e, rfl⟩
instance : Inhabited qem := ⟨⟨0, 0, 0, 0, none, 0, 0⟩⟩
theorem qrh {n : Nat} {cs : List Value} {y : DataW H × List MemPlace} (h : DataW.trod en prog w 0 sp held n 36 cs = some y) : ∃ c : qem, cs = c.enc ∧ True := by
 obtain ⟨xs, m, _, rfl, hl, hlen, hf⟩ := DataW.trod_struct underlying36 h; obtain ⟨c0, c1, c2, c3, c4, rfl⟩ := qAo (hl.trans (by kernel_rfl)); obtain ⟨y0, y1, y2, y3, y4, rfl⟩ := qAo hlen; have ki : prog.cellsOf 3 = 1 := by kernel_rfl
 have ks : prog.cellsOf 23 = 1 := by kernel_rfl
 have f0 : DataW.trod en prog w 0 sp held m 3 [c0] = some y0 := by simpa [ki] using hf 0 _ rfl
 have f1 : DataW.trod en prog w 0 sp held m 3 [c1] = some y1 := by simpa [ki] using hf 1 _ rfl
 have f2 : DataW.trod en prog w 0 sp held m 3 [c2] = some y2 := by simpa [ki] using hf 2 _ rfl
 have f3 : DataW.trod en prog w 0 sp held m 3 [c3] = some y3 := by simpa [ki] using hf 3 _ rfl
 have f4 : DataW.trod en prog w 0 sp held m 23 [c4] = some y4 := by simpa [ki, ks] using hf 4 _ rfl
 obtain ⟨n0, e0, _, _⟩ := DataW.trod_int underlying3 f0; obtain ⟨n1, e1, _, _⟩ := DataW.trod_int underlying3 f1; obtain ⟨n2, e2, _, _⟩ := DataW.trod_int underlying3 f2; obtain ⟨n3, e3, _, _⟩ := DataW.trod_int underlying3 f3; cases e0; cases e1; cases e2; cases e3
 rcases open_slice underlying23 f4 with ⟨h0, _⟩ | ⟨a, len, cap, _, _, _, _, h0, _⟩
 · cases h0
   exact ⟨⟨n0, n1, n2, n3, none, 0, 0⟩, rfl, trivial⟩
 · cases h0
   exact ⟨⟨n0, n1, n2, n3, some a, len, cap⟩, rfl, trivial⟩
theorem qq5 {r : Reach} {b0 : Nat} {v : Value} {d : DataW H} {p : List MemPlace} (hv : Value.okWide prog w r b0 22 v) (h : DataW.Trod en prog w 0 sp held 22 v d p) :
 ∃ (l : List qem) (A : Option Addr) (c : Nat), v = .slice A l.length c ∧ Arr qem.enc 5 w w.heap.size A l ∧ l.length ≤ c ∧ c ≤ 9223372036854775807 := by
 obtain ⟨a, len, cap, rfl⟩ := okWide_slice underlying22 hv; obtain ⟨fuel, hf⟩ := h; have hf' : DataW.trod en prog w 0 sp held fuel 22 [.slice a len cap] = some (d, p) := by simpa [Value.cells] using hf
 obtain ⟨A, l, c, h1, h2, h3, h4, _⟩ := qx9 underlying22 (k := 5) (by kernel_rfl) (by omega) qem.enc_len (fun _ => True) (fun n cs y hy => qrh hy) hf'; exact ⟨l, A, c, h1, h2, h3, h4⟩
end
end
end Go.Proofs.YtecikkjbnkhhkaaGreat
