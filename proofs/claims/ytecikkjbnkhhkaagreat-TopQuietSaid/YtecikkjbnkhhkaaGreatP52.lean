/- A part of the walk. -/
import Derived.Test.YtecikkjbnkhhkaaGreatP48
import Derived.Test.YtecikkjbnkhhkaaGreatP51
namespace Go.Proofs.YtecikkjbnkhhkaaGreat
open _root_.Go.Proofs.Tryz
set_option maxHeartbeats 4000000
set_option maxRecDepth 100000
open Go.RowKit
structure EvC where
 k : Int
 t : Int
 l : Int
 cl : qa7
 kA : Option Addr
 kn : Nat
 kc : Nat
def EvC.enc (x : EvC) : List Value := evL x.k x.t x.l x.cl x.kA x.kn x.kc
theorem EvC.enc_len (x : EvC) : x.enc.length = 9 := rfl
theorem EvC.enc_one (x : EvC) : ∀ u ∈ x.enc, u.oneCell' = true := by
 intro u hu; simp only [EvC.enc, evL, List.mem_cons, List.not_mem_nil, or_false] at hu; rcases hu with rfl | rfl | rfl | rfl | rfl | rfl | rfl | rfl | rfl <;> rfl
theorem qza : (prog.info? 42).map (fun i => (i.zero, i.size, i.bytes)) = some (some (.agg (evL 0 0 0 qig none 0 0).toArray), 9, 128) := by kernel_rfl
theorem qu0 {ops : Array Oper} {rest : List Oper} {o : Oper} {a : Act} {Q : Exit → Act → World → Prop} (w : World) (hgd : o.guard = none) (s x : Operand)
 (ho : o.op = .call { callee := .builtin .append, args := #[s, x], argTypes := #[33, 33] }) {lo : Nat} {A : Option Addr} {c : Nat} {l : List EvC} (hs : a.eval s = .slice A l.length c) (own : Own EvC.enc 42 9 w lo A c l)
 {B : Nat} {A2 : Option Addr} {m : List EvC} (c2 : Nat) (hx : a.eval x = .slice A2 m.length c2) (arr : Arr EvC.enc 9 w B A2 m) (hb : l.length + m.length ≤ 1000000) (hlo : lo ≤ w.heap.size)
 (h : ∀ A' c' w', Own EvC.enc 42 9 w' lo A' c' (l ++ m) → w.grownBy w' (qa8 A c) → (A' = A ∧ c' = c ∨ ∃ g, A' = some ⟨g, 0, none⟩ ∧ w.heap.size ≤ g) → wpList prog ops Q rest (a.put o.dst (.slice A' (l.length + m.length) c')) w') :
 wpList prog ops Q (o :: rest) a w := by
 obtain ⟨i0, hi, hz0, hz1, hz2⟩ := info_parts qza; exact qar w hgd s x 33 ho i0 _ 128 underlying33 hi hz0 hz1 hz2 rfl (by decide) EvC.enc_len EvC.enc_one hs own c2 hx arr (by unfold maxLen; omega) (by omega) hlo h
theorem qfe {w : World} {p : Nat} {x : EvC} {ty : TypeId} (h : w.heap[p]? = some (.cells x.enc.toArray ty (0, 0))) : Arr EvC.enc 9 w w.heap.size (some ⟨p, 0, none⟩) [x] := .inr ⟨p, 0, rfl, qa0 h, fun i hi j v hv => by
 have : i = 0 := by simp at hi; exact hi
 subst this
 rw [show 0 + 0 * 9 + j = j by omega]
 exact (cell_of_row w p j _ _ _ h).trans (by rw [List.getElem?_toArray]; exact hv)⟩
theorem qde {α : Type} {enc : α → List Value} {e : TypeId} {k lo : Nat} {w W W' : World} {A : Option Addr} {c : Nat} {l : List α} (ho : Own enc e k W lo A c l) (hg : W.grownBy W' (qa8 A c)) (hb : Below lo w W) (hlo : lo ≤ W.heap.size) : Below lo w W' :=
 ⟨hg.os.trans hb.os, hg.tape.trans hb.tape, hg.output.trans hb.output, Nat.le_trans hb.size hg.size, fun i hi => (hg.block i (by omega) (fun e => by
  unfold qa8 at e
  split at e
  · cases e
  · rename_i h0
    rcases ho.2.2 with h | ⟨b, off, cur, hA, hlb, _⟩
    · exact h0 h
    · rw [hA] at e; have := Option.some.inj e; have h2 : i = b := this; omega)).trans (hb.block i hi)⟩
structure EvOK (w : World) (lo th : Nat) (e : EvC) : Prop where
 kd : e.k = 1 ∨ e.k = 2 ∨ e.k = 3 ∨ e.k = 4 ∨ e.k = 5
 call : e.k = 1 → (∃ t : Nat, e.t = (t : Int) ∧ t < th) ∧ ∃ G, qd2 w lo e.cl G
 step : e.k = 2 → ∃ t : Nat, e.t = (t : Int) ∧ t < th
def qkt (th : Nat) (w : World) (e : Ending) (w' : World) : Prop := ∃ A c es, e = .returned (.slice A es.length c) ∧ Arr EvC.enc 9 w' w'.heap.size A es ∧ es.length ≤ c ∧ c ≤ 9223372036854775807 ∧ es.length ≤ 7 ∧ Below w.heap.size w w' ∧ (es = [] ∨ ∃ x off, A = some ⟨x, off, none⟩ ∧ w.heap.size ≤ x) ∧ ∀ v ∈ es, EvOK w' w.heap.size th v
theorem EvOK.plain {w : World} {lo th : Nat} {e : EvC} (h : e.k = 3 ∨ e.k = 4 ∨ e.k = 5) : EvOK w lo th e := ⟨by omega, fun h1 => by omega, fun h1 => by omega⟩
theorem EvOK.stp {w : World} {lo th t : Nat} {l : Int} {cl : qa7} {kA : Option Addr} {kn kc : Nat} (ht : t < th) : EvOK w lo th ⟨2, t, l, cl, kA, kn, kc⟩ := ⟨.inr (.inl rfl), fun h1 => (by cases h1), fun _ => ⟨t, rfl, ht⟩⟩
theorem qgu {th : Nat} {w w' : World} {x : EvC} (hb : Below w.heap.size w w') {p : Nat} {ty : TypeId} (h : w'.heap[p]? = some (.cells x.enc.toArray ty (0, 0))) (hp : w.heap.size ≤ p) (hx : EvOK w' w.heap.size th x) : qkt th w (.returned (.slice (some ⟨p, 0, none⟩) 1 1)) w' :=
 ⟨some ⟨p, 0, none⟩, 1, [x], rfl, qfe h, Nat.le_refl _, by decide, (by show 1 ≤ 7; decide), hb, .inr ⟨p, 0, rfl, hp⟩, fun v hv => by rw [List.mem_singleton.1 hv]; exact hx⟩
theorem qp6 {th : Nat} {w w1 w' : World} {A : Option Addr} {c : Nat} {es : List EvC} (ho : Own EvC.enc 42 9 w' w1.heap.size A c es) (h0 : w.heap.size ≤ w1.heap.size) (hb : Below w.heap.size w w') (hl : es.length ≤ 7) (hx : ∀ v ∈ es, EvOK w' w.heap.size th v) : qkt th w (.returned (.slice A es.length c)) w' :=
 ⟨A, c, es, rfl, ho.arr EvC.enc_len, ho.1, ho.2.1, hl, hb, by
  rcases ho.lt with h | ⟨x, off, hA, hx, _⟩
  · exact .inl (List.eq_nil_of_length_eq_zero (by have := ho.1; omega))
  · exact .inr ⟨x, off, hA, by omega⟩, hx⟩
theorem qqm (x : qem) (th : Nat) (w : World) (h1 : 1 ≤ th) (h4 : th ≤ 4) : Calls prog 13 #[.agg #[.int .i64 x.dn, .int .i64 x.t, .int .i64 x.a, .int .i64 x.b, .slice x.kA x.kn x.kc], .int .i64 (th : Int)] w (qkt th w) := by
 obtain ⟨dn, t, a, b, kA, kn, kc⟩ := x; have L1 := hid (fun W => qd6 t th (by omega) (by omega) W); have L2 := hid (fun W => qd6 a 6 (by decide) (by decide) W); obtain ⟨tt, e1, b1⟩ := qd5 t th (by omega); obtain ⟨aa, e2, b2⟩ := qd5 a 6 (by decide); simp only [e1] at L1; simp only [e2] at L2; clear e1 e2; go_enter func13, ntmps13; go_upto_region 1 with fail; generalize hw1 : World.alloc _ _ = w1; have hb1 : Below w.heap.size w w1 := by rw [← hw1]; exact (Below.refl _ _).alloc (Nat.le_refl _) _
 have R0 : w1.heap[w.heap.size]? = some (.cells #[.int .i64 dn, .int .i64 t, .int .i64 a, .int .i64 b, .slice kA kn kc] 36 (0, 0)) := by rw [← hw1]; exact qaq _ _
 have HB1 := hid hb1; have hl0 := qa0 R0; have c0 : w1.cell? ⟨w.heap.size, 0, none⟩ = some (.int .i64 dn) := cell_of_row w1 _ 0 _ _ _ R0; have c1 : w1.cell? ⟨w.heap.size, 1, none⟩ = some (.int .i64 t) := cell_of_row w1 _ 1 _ _ _ R0; have c2 : w1.cell? ⟨w.heap.size, 2, none⟩ = some (.int .i64 a) := cell_of_row w1 _ 2 _ _ _ R0; have c3 : w1.cell? ⟨w.heap.size, 3, none⟩ = some (.int .i64 b) := cell_of_row w1 _ 3 _ _ _ R0; have c4 : w1.cell? ⟨w.heap.size, 4, none⟩ = some (.slice kA kn kc) := cell_of_row w1 _ 4 _ _ _ R0; clear hw1 hb1 R0; go_wp2_with fail; refine (L1.out w1).mono ?_; rintro e w2 ⟨rfl, he⟩; rw [he]; clear he L1; by_cases h0 : dn = 0
 · have d0 : (dn == 0) = true := beq_iff_eq.2 h0
   rw [h0] at c0; go_wp2_with fail; refine (qx4 a b w1).mono ?_; rintro e w3 ⟨cl, G, rfl, hok, hb3⟩; unfold qbz; have HOK := hid hok; have HB3 := hid hb3; clear hok hb3; go_wp2_with fail; go_ret; have hz := HB1.out.size; have hz3 := HB3.out.size; have b4 : Below w3.heap.size w3 (w3.alloc (.cells (EvC.enc ⟨1, (tt : Int), 0, cl, none, 0, 0⟩).toArray 42)) := (Below.refl _ _).alloc (Nat.le_refl _) _; refine qgu (x := ⟨1, (tt : Int), 0, cl, none, 0, 0⟩) ((HB1.out.trans (HB3.out.mono hz)).trans (b4.mono (by omega))) (qaq _ _) (by omega) ⟨.inl rfl, fun _ => ⟨⟨tt, rfl, by omega⟩, G, ?_⟩, fun h => by cases h⟩; have q := HOK.out; exact ⟨(q.inn.below b4).more b4.size, q.sm, q.gr, q.g1, q.kd, by
    rcases q.new with h | ⟨y, off, hA, hy⟩
    · exact .inl h
    · exact .inr ⟨y, off, hA, by omega⟩⟩
 · have d0 : (dn == 0) = false := beq_eq_false_iff_ne.2 h0
   by_cases h1 : dn = 1
   · have d1 : (dn == 1) = true := beq_iff_eq.2 h1
     go_wp2_with fail; go_ret; exact qgu (x := ⟨3, 0, 0, qig, none, 0, 0⟩) ((HB1.out).alloc (by have := HB1.out.size; omega) _) (qaq _ _) (by have := HB1.out.size; omega) (.plain (by show (3 : Int) = 3 ∨ (3 : Int) = 4 ∨ (3 : Int) = 5; decide))
   · have d1 : (dn == 1) = false := beq_eq_false_iff_ne.2 h1
     by_cases h2 : dn = 2
     · have d2 : (dn == 2) = true := beq_iff_eq.2 h2
       go_wp2_with fail; go_loopw [6, 7] (fun v6 v7 wr => ∃ (k : Nat) (A : Option Addr) (c : Nat) (l : List EvC), k ≤ th ∧ v6 = .slice A l.length c ∧ v7 = .int .i64 k ∧ l.length = k ∧ Own EvC.enc 42 9 wr w1.heap.size A c l ∧ Below w1.heap.size w1 wr ∧ ∀ W, ∀ v ∈ l, EvOK W w.heap.size th v) (fun _ v7 _ => th - (intOf v7).toNat)
       case atStart => exact ⟨0, none, 0, [], by omega, rfl, rfl, rfl, Own.none_, Below.refl _ _, fun _ _ h => by cases h⟩
       case round =>
        obtain ⟨k, A, c, l, hk, rfl, rfl, hlk, hown, hbr, hok⟩ := hrel; have HOWN := hid hown; have HBR := hid hbr; have HOK := hid hok; clear hown hbr hok; by_cases hlt : k < th
        · have hki : (k : Int) < (th : Int) := by omega
          have hz := HBR.out.size; go_wp2_with (at_builtin; refine qu0 (l := l) (m := [(⟨2, (k : Int), 0, qig, none, 0, 0⟩ : EvC)]) (A := A) (c := c) (lo := w1.heap.size) _ rfl (.tmp 37) (.tmp 40) rfl (by first | rfl | simp [Act.eval]) (HOWN.out.alloc _) 1 rfl (qfe (qaq _ _)) (by simp; omega) (by simp; omega) ?_; intro A' c' w' hown hgr hloc; have HB' := hid (qde (HOWN.out.alloc _) hgr (HBR.out.alloc hz _) (by simp; omega)); have HO' := hid hown; clear hown hgr hloc); refine ⟨⟨k + 1, A', c', _, by omega, by rw [List.length_append, hlk]; rfl, by go_num, by rw [List.length_append, hlk]; rfl, HO'.out, HB'.out, fun W v hv => ?_⟩, by show th - ((k : Int) + 1).toNat < th - (k : Int).toNat; omega⟩; rcases List.mem_append.1 hv with hv | hv
          · exact HOK.out W v hv
          · rw [List.mem_singleton.1 hv]; exact .stp hlt
        · have hki : ¬ (k : Int) < (th : Int) := by omega
          have hz := HBR.out.size; have hz1 := HB1.out.size; go_wp2_with (at_builtin; refine qu0 (l := l) (m := [(⟨3, 0, 0, qig, none, 0, 0⟩ : EvC)]) (A := A) (c := c) (lo := w1.heap.size) _ rfl (.tmp 42) (.tmp 44) rfl (by first | rfl | simp [Act.eval]) (HOWN.out.alloc _) 1 rfl (qfe (qaq _ _)) (by simp; omega) (by simp; omega) ?_; intro A' c' w' hown hgr hloc; have HB' := hid (qde (HOWN.out.alloc _) hgr (HBR.out.alloc hz _) (by simp; omega)); have HO' := hid hown; clear hown hgr hloc); go_ret; have hg := qp6 (th := th) (w := w) HO'.out hz1 (HB1.out.trans (HB'.out.mono hz1)) (by rw [List.length_append, hlk]; show k + 1 ≤ 7; omega) (fun v hv => by
           rcases List.mem_append.1 hv with hv | hv
           · exact HOK.out _ v hv
           · rw [List.mem_singleton.1 hv]; exact .plain (.inl rfl))
          rw [List.length_append, hlk] at hg; exact hg
     · have d2 : (dn == 2) = false := beq_eq_false_iff_ne.2 h2
       by_cases h3 : dn = 3
       · have d3 : (dn == 3) = true := beq_iff_eq.2 h3
         go_wp2_with fail; go_ret; exact qgu (x := ⟨4, 0, a, qig, none, 0, 0⟩) ((HB1.out).alloc (by have := HB1.out.size; omega) _) (qaq _ _) (by have := HB1.out.size; omega) (.plain (by show (4 : Int) = 3 ∨ (4 : Int) = 4 ∨ (4 : Int) = 5; decide))
       · have d3 : (dn == 3) = false := beq_eq_false_iff_ne.2 h3
         by_cases h4 : dn = 4
         · have d4 : (dn == 4) = true := beq_iff_eq.2 h4
           go_wp2_with fail; go_ret; exact qgu (x := ⟨5, 0, 0, qig, kA, kn, kc⟩) ((HB1.out).alloc (by have := HB1.out.size; omega) _) (qaq _ _) (by have := HB1.out.size; omega) (.plain (by show (5 : Int) = 3 ∨ (5 : Int) = 4 ∨ (5 : Int) = 5; decide))
         · have d4 : (dn == 4) = false := beq_eq_false_iff_ne.2 h4
           go_wp2_with fail; go_loopw [8, 9] (fun v8 v9 wr => ∃ (k : Nat) (A : Option Addr) (c : Nat) (l : List EvC), k ≤ 6 ∧ v8 = .slice A l.length c ∧ v9 = .int .i64 k ∧ l.length = k ∧ Own EvC.enc 42 9 wr w1.heap.size A c l ∧ Below w1.heap.size w1 wr ∧ ∀ W, ∀ v ∈ l, EvOK W w.heap.size th v) (fun _ v9 _ => 7 - (intOf v9).toNat)
           case atStart => exact ⟨0, none, 0, [], by omega, rfl, rfl, rfl, Own.none_, Below.refl _ _, fun _ _ h => by cases h⟩
           case round =>
            obtain ⟨k, A, c, l, hk, rfl, rfl, hlk, hown, hbr, hok⟩ := hrel; subst hlk; have c2' : wr.cell? ⟨w.heap.size, 2, none⟩ = some (.int .i64 a) := (hbr.cell (p := ⟨w.heap.size, 2, none⟩) hl0).trans c2; have hl0' : w.heap.size < wr.heap.size := by have := hbr.size; omega
            have HOWN := hid hown; have HBR := hid hbr; have HOK := hid hok; clear hown hbr hok; by_cases hlt : l.length ≤ aa
            · have hki : (l.length : Int) ≤ (aa : Int) := by omega
              have hz := HBR.out.size; go_wp2_with fail; refine (L2.out wr).mono ?_; rintro e w2 ⟨rfl, he⟩; rw [he]; clear he; go_wp2_with (at_builtin; refine qu0 (l := l) (m := [(⟨2, (tt : Int), 0, qig, none, 0, 0⟩ : EvC)]) (A := A) (c := c) (lo := w1.heap.size) _ rfl (.tmp 65) (.tmp 68) rfl (by first | rfl | simp [Act.eval]) (HOWN.out.alloc _) 1 rfl (qfe (qaq _ _)) (by simp; omega) (by simp; omega) ?_; intro A' c' w' hown hgr hloc; have HB' := hid (qde (HOWN.out.alloc _) hgr (HBR.out.alloc hz _) (by simp; omega)); have HO' := hid hown; clear hown hgr hloc); refine ⟨⟨l.length + 1, A', c', _, by omega, by rw [List.length_append]; rfl, by go_num, by rw [List.length_append]; rfl, HO'.out, HB'.out, fun W v hv => ?_⟩, by show 7 - ((l.length : Int) + 1).toNat < 7 - (l.length : Int).toNat; omega⟩; rcases List.mem_append.1 hv with hv | hv
              · exact HOK.out W v hv
              · rw [List.mem_singleton.1 hv]; exact .stp (by omega)
            · have hki : ¬ (l.length : Int) ≤ (aa : Int) := by omega
              have hz1 := HB1.out.size; go_wp2_with fail; refine (L2.out wr).mono ?_; rintro e w2 ⟨rfl, he⟩; rw [he]; clear he; go_wp2_with fail; go_ret; exact qp6 HOWN.out hz1 (HB1.out.trans (HBR.out.mono hz1)) (by omega) (fun v hv => HOK.out _ v hv)
end Go.Proofs.YtecikkjbnkhhkaaGreat
