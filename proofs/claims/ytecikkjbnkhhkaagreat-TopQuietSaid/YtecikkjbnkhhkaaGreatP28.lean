/- A part of the walk. -/
import Derived.Test.YtecikkjbnkhhkaaGreatP27
import Derived.Deep.CutBlock
namespace Go.Proofs.YtecikkjbnkhhkaaGreat
open _root_.Go.Proofs.Tryz
set_option maxHeartbeats 4000000
set_option maxRecDepth 100000
section
open Go.RowKit
def qxi (S : List qan) (line c : Int) (ok : Bool) : Prop :=
 (ok = true → ∃ (i k : Nat) (hi : i < S.length), c = S[i].cls ∧ (∃ hk : k < S[i].taken.length, S[i].taken[k] = true) ∧ ∃ hs : k < (qb1 i S[i].cls).length, line = ((qb1 i S[i].cls)[k] : Int)) ∧ (ok = false → qxj S line)
def qi4 (M : qa4) (l : List ChgC) (i : Nat) (h : i < l.length) : Prop := qbv l[i] = true → qxi M.S l[i].line l[i].cls true ∧ qkv M l[i].line = false ∧ ∀ j (hj : j < i), qbv (l[j]'(by omega)) = true → (l[j]'(by omega)).line ≠ l[i].line
def qoa (M : qa4) (l : List ChgC) (i : Nat) (h : i < l.length) : Prop := qbv l[i] = true ∧ ((∃ c ok, qxi M.S l[i].line c ok ∧ (ok = false ∨ c ≠ l[i].cls)) ∨ qkv M l[i].line = true ∨ ∃ j, ∃ hj : j < i, qbv (l[j]'(by omega)) = true ∧ (l[j]'(by omega)).line = l[i].line)
def qun (M : qa4) (l : List ChgC) (w : World) (e : Ending) (w' : World) : Prop := ∃ r, e = .returned (.bool r) ∧ Below w.heap.size w w' ∧ (r = true → ∀ i (h : i < l.length), qi4 M l i h) ∧ (r = false → ∃ i, ∃ h : i < l.length, qoa M l i h)
theorem Arr.chg {w : World} {B : Nat} {A : Option Addr} {l : List ChgC} (h : Arr ChgC.enc 11 w B A l) {i : Nat} (hi : i < l.length) : ∃ b off, A = some ⟨b, off, none⟩ ∧ b < B ∧ w.cell? ⟨b, off + i * 11, none⟩ = some (.int .i64 l[i].kind) ∧ w.cell? ⟨b, off + i * 11 + 1, none⟩ = some (.string l[i].key) ∧ w.cell? ⟨b, off + i * 11 + 2, none⟩ = some (.string l[i].val) ∧ w.cell? ⟨b, off + i * 11 + 3, none⟩ = some (.bool l[i].had) ∧ w.cell? ⟨b, off + i * 11 + 4, none⟩ = some (.string l[i].old.key) ∧ w.cell? ⟨b, off + i * 11 + 5, none⟩ = some (.int .u64 (l[i].old.id : Int)) ∧ w.cell? ⟨b, off + i * 11 + 6, none⟩ = some (.int .u64 (l[i].old.ver : Int)) ∧ w.cell? ⟨b, off + i * 11 + 7, none⟩ = some (.int .i64 l[i].old.line) ∧ w.cell? ⟨b, off + i * 11 + 8, none⟩ = some (.int .i64 l[i].old.cls) ∧ w.cell? ⟨b, off + i * 11 + 9, none⟩ = some (.int .i64 l[i].line) ∧ w.cell? ⟨b, off + i * 11 + 10, none⟩ = some (.int .i64 l[i].cls) := by
 rcases h with h | ⟨b, off, hA, hb, hc⟩
 · subst h; exact absurd hi (Nat.not_lt_zero _)
 · exact ⟨b, off, hA, hb, hc i hi 0 _ rfl, hc i hi 1 _ rfl, hc i hi 2 _ rfl, hc i hi 3 _ rfl, hc i hi 4 _ rfl, hc i hi 5 _ rfl, hc i hi 6 _ rfl, hc i hi 7 _ rfl, hc i hi 8 _ rfl, hc i hi 9 _ rfl, hc i hi 10 _ rfl⟩
theorem qea (w : World) (x : ChgC) (t : TypeId) : (w.alloc (.cells #[.int .i64 x.kind, .string x.key, .string x.val, .bool x.had, .string x.old.key, .int .u64 (x.old.id : Int), .int .u64 (x.old.ver : Int), .int .i64 x.old.line, .int .i64 x.old.cls, .int .i64 x.line, .int .i64 x.cls] t)).heap[w.heap.size]? = some (.cells x.enc.toArray t (0, 0)) := (qa2 _ _ _).trans (if_pos rfl)
theorem qAt {W W' : World} {a x : Nat} {u v : Value} (hb : Below W.heap.size W W') (ha : a < W.heap.size) (hx : x < W.heap.size) {i j : Nat} (h : W.cell? ⟨a, i, none⟩ = some u ∧ W.cell? ⟨x, j, none⟩ = some v) : W'.cell? ⟨a, i, none⟩ = some u ∧ W'.cell? ⟨x, j, none⟩ = some v :=
 ⟨(hb.cell (p := ⟨a, i, none⟩) ha).trans h.1, (hb.cell (p := ⟨x, j, none⟩) hx).trans h.2⟩
section
variable {g : Own8} {w : World} {a : Nat} {P : qag} {M : qa4}
theorem qzt (h : qa6 g w a P M) (line : Int) : Calls prog 340 #[.pointer (some ⟨P.pp, 0, none⟩), .int .i64 line] w fun e w' => ∃ (c : Int) (ok : Bool), e = .returned (.tuple #[.int .i64 c, .bool ok]) ∧ qxi M.S line c ok ∧ Below w.heap.size w w' := by
 refine (qAb w 0 P.pp P.sc M.S h.pool.1 line).mono ?_; rintro e w' ⟨hb, c, ok, rfl, h1, h2⟩; exact ⟨c, ok, rfl, ⟨h1, h2⟩, hb⟩
theorem qwf (h : qa6 g w a P M) (l : List ChgC) (A : Option Addr) (c : Nat) (hA : Arr ChgC.enc 11 w w.heap.size A l) (hc : l.length ≤ c) (_hm : c ≤ 9223372036854775807) (hl : l.length ≤ 100000) (hn : Few M 50000) : Calls prog 306 #[.pointer (some ⟨a, 0, none⟩), .slice A l.length c] w (qun M l w) := by
 have H := hid h; have HA := hid hA; have HN := hid hn; clear h hA hn; go_enter func306, ntmps306; go_wp2_with fail; go_loopw [13] (fun v13 wr => ∃ k : Nat, k ≤ l.length ∧ v13 = .int .i64 k ∧ (∀ i (hi : i < l.length), i < k → qi4 M l i hi) ∧ Below w.heap.size w wr) (fun v13 _ => l.length - (intOf v13).toNat)
 case atStart => exact ⟨0, Nat.zero_le _, rfl, fun i _ hi => absurd hi (Nat.not_lt_zero i), Below.refl _ _⟩
 case round =>
  obtain ⟨k, hkl, rfl, hno, hbr⟩ := hrel; have HNO := hid hno; have HBR := hid hbr; clear hno; by_cases hlt : k < l.length
  · obtain ⟨b, off, rfl, hB, k0, k1, k2, k3, k4, k5, k6, k7, k8, k9, kA⟩ := ((HA.out.below hbr).more hbr.size).chg hlt
    have i1 : (0 : Int) ≤ (k : Int) := by omega
    have i2 : (k : Int) < (l.length : Int) := by omega
    obtain ⟨x, hx⟩ : ∃ x, x = l[k] := ⟨_, rfl⟩; rw [← hx] at k0 k1 k2 k3 k4 k5 k6 k7 k8 k9 kA; have HX := hid hx; clear hbr hx; go_upto_region 4 with fail; generalize hw1 : World.alloc _ _ = w1; have R0 : w1.heap[wr.heap.size]? = some (.cells x.enc.toArray 376 (0, 0)) := by rw [← hw1]; exact qea _ x _
    have b1 : Below w.heap.size w w1 := by rw [← hw1]; exact HBR.out.alloc HBR.out.size _
    have bk1 : Below wr.heap.size wr w1 := by rw [← hw1]; exact (Below.refl _ _).alloc (Nat.le_refl _) _
    obtain ⟨c0, c1, c2, c3, c4, c5, c6, c7, c8, c9, cA⟩ := ChgC.cells R0; have hl0 := qa0 R0; have HR0 := hid R0; have HB1 := hid b1; obtain ⟨vb, hvb⟩ : ∃ vb, vb = wr.heap.size := ⟨_, rfl⟩; rw [← hvb] at HR0 c0 c1 c2 c3 c4 c5 c6 c7 c8 c9 cA hl0 ⊢; clear hw1 R0 b1 k0 k1 k2 k3 k4 k5 k6 k7 k8 k9 kA bk1 hvb hB; have HXV := hid x.v_eq; go_wp2_with fail; have TM := qf4 x w1; rw [HXV.out] at TM; refine TM.mono ?_; rintro e w2 ⟨rfl, hb2⟩; have R0 := qac hb2 hl0 HR0.out; obtain ⟨c0, c1, c2, c3, c4, c5, c6, c7, c8, c9, cA⟩ := ChgC.cells R0; have hl0 := qa0 R0; have HR0 := hid R0; have HB2 := hid (HB1.out.trans (hb2.mono HB1.out.size)); clear hb2 TM R0 HB1 HBR; cases hnd : qbv x with
    | false =>
     have HND := hid hnd; go_wp2_with fail; exact ⟨⟨k + 1, by omega, by go_num, fun i hi h2 => (by
      by_cases hik : i = k
      · subst hik; intro hn; rw [← HX.out, HND.out] at hn; cases hn
      · exact HNO.out i hi (by omega)), HB2.out⟩, by simp [intOf]; omega⟩
    | true =>
     have HND := hid hnd; clear hnd; have H2 := H.out.below HB2.out; have q1 := H2.cells.2.1; have hla := qa0 H2.box.1; have HOF : Hid (∀ W, Below w2.heap.size w2 W → _) := hid fun W (hW : Below w2.heap.size w2 W) => qzt (H2.below hW) x.line
     have HK := hid (And.intro q1 c9); clear H2; go_upto_region 5 with fail; go_cut [7, 8] (fun v7 v8 wx => ∃ cc ok, v7 = .int .i64 cc ∧ v8 = .bool ok ∧ qxi M.S x.line cc ok ∧ Below w2.heap.size w2 wx)
     case first =>
      go_region_held3 (fun W => W.cell? ⟨a, 1, none⟩ = some (.pointer (some ⟨P.pp, 0, none⟩)) ∧ W.cell? ⟨vb, 9, none⟩ = some (.int .i64 x.line)) (first | (with_reducible refine qAt (W := w2) ?_ hla hl0 HK.out; (repeat (first | with_reducible exact Below.refl _ _ | with_reducible assumption | with_reducible refine Below.drew ?_ | with_reducible refine qa1 ?_ _)); done) | go_keep) (first | (go_at_call 340; refine (HOF.out _ ?_).mono ?_; exact (by with_reducible repeat (first | exact Below.refl _ _ | assumption | refine Below.drew ?_ | refine qa1 ?_ _ | refine Below.alloc ?_ (by first | omega | simp <;> omega) _ | refine Below.setCell ?_ (by first | omega | simp <;> omega) _)); rintro e w3 ⟨cc, ok, rfl, hof, hb3⟩; have HOFR := hid hof; clear hof; have ST3 : Below w2.heap.size w2 w3 := (by refine Below.trans ?_ (hb3.mono ?_); exact (by with_reducible repeat (first | exact Below.refl _ _ | assumption | refine Below.drew ?_ | refine qa1 ?_ _ | refine Below.alloc ?_ (by first | omega | simp <;> omega) _ | refine Below.setCell ?_ (by first | omega | simp <;> omega) _)); (first | exact Nat.le_refl _ | (simp; done) | (simp; omega) | omega)); clear hb3) | fail); all_goals
       go_wp2_with fail; go_meet; exact ⟨cc, ok, rfl, rfl, HOFR.out, (by with_reducible repeat (first | exact Below.refl _ _ | assumption | refine Below.drew ?_ | refine qa1 ?_ _ | refine Below.alloc ?_ (by first | omega | simp <;> omega) _ | refine Below.setCell ?_ (by first | omega | simp <;> omega) _))⟩
     obtain ⟨cc, ok, rfl, rfl, hof, hb3⟩ := hcut; obtain ⟨w3, hw3⟩ : ∃ x, x = wc := ⟨_, rfl⟩; subst hw3; have R0 := qac hb3 hl0 HR0.out; obtain ⟨c0, c1, c2, c3, c4, c5, c6, c7, c8, c9, cA⟩ := ChgC.cells R0; have hl0 := qa0 R0; have HR0 := hid R0; have HOFR := hid hof; have HB3 := hid (HB2.out.trans (hb3.mono HB2.out.size)); clear hof hb3 HOF HK q1 hla R0 HB2; cases ok with
     | false =>
      go_wp2_with fail; go_ret; exact ⟨false, rfl, HB3.out, (fun h0 => by cases h0), fun _ => ⟨k, hlt, by rw [← HX.out]; exact HND.out, .inl ⟨cc, false, by rw [← HX.out]; exact HOFR.out, .inl rfl⟩⟩⟩
     | true =>
      by_cases hcc : cc = x.cls
      · have hccb : (cc != x.cls) = false := by rw [bne_eq_false_iff_eq]; exact hcc
        have HCC := hid hcc; have TU := hid (qv6 (H.out.below HB3.out) x.line HN.out); clear hcc; go_wp2_with fail; refine TU.out.mono ?_; rintro e w4 ⟨rfl, hb4⟩; have R0 := qac hb4 hl0 HR0.out; obtain ⟨c0, c1, c2, c3, c4, c5, c6, c7, c8, c9, cA⟩ := ChgC.cells R0; have hl0 := qa0 R0; have HR0 := hid R0; have HB4 := hid (HB3.out.trans (hb4.mono HB3.out.size)); clear hb4 R0 HB3; cases hu : qkv M x.line with
        | true =>
         have HU := hid hu; clear hu; go_wp2_with fail; go_ret; exact ⟨false, rfl, HB4.out, (fun h0 => by cases h0), fun _ => ⟨k, hlt, by rw [← HX.out]; exact HND.out, .inr (.inl (by rw [← HX.out]; exact HU.out))⟩⟩
        | false =>
         have HU := hid hu; clear hu; have hkc : (k : Int) ≤ (c : Int) := by omega
         go_wp2_with fail; go_loopw [49] (fun v49 wj => ∃ j : Nat, j ≤ k ∧ v49 = .int .i64 j ∧ (∀ i (hi : i < l.length), i < j → qbv l[i] = true → l[i].line ≠ x.line) ∧ Below w4.heap.size w4 wj) (fun v49 _ => k - (intOf v49).toNat)
         case atStart => exact ⟨0, Nat.zero_le _, rfl, fun i _ hi => absurd hi (Nat.not_lt_zero i), Below.refl _ _⟩
         case round =>
          obtain ⟨j, hjk, rfl, hnj, hbj⟩ := hrel; have HNJ := hid hnj; have HBJ := hid hbj; have hl0j := Nat.lt_of_lt_of_le hl0 hbj.size; have R0 := qac hbj hl0 HR0.out; obtain ⟨c0, c1, c2, c3, c4, c5, c6, c7, c8, c9, cA⟩ := ChgC.cells R0; have HR0J := hid R0; clear hnj R0; by_cases hjl : j < k
          · have hjl' : j < l.length := by omega
            obtain ⟨b', off', hA', hB', k0, k1, k2, k3, k4, k5, k6, k7, k8, k9, kA⟩ := ((HA.out.below (HB4.out.trans (hbj.mono HB4.out.size))).more (HB4.out.trans (hbj.mono HB4.out.size)).size).chg hjl'; cases hA'
            have i1 : (0 : Int) ≤ (j : Int) := by omega
            have i2 : (j : Int) < (k : Int) := by omega
            obtain ⟨y, hy⟩ : ∃ y, y = l[j] := ⟨_, rfl⟩; rw [← hy] at k0 k1 k2 k3 k4 k5 k6 k7 k8 k9 kA; have HY := hid hy; clear hbj hy hB'; go_upto_region 11 with fail; generalize hw5 : World.alloc _ _ = w5; have R1 : w5.heap[wr.heap.size]? = some (.cells y.enc.toArray 376 (0, 0)) := by rw [← hw5]; exact qea _ y _
            have bk5 : Below wr.heap.size wr w5 := by rw [← hw5]; exact (Below.refl _ _).alloc (Nat.le_refl _) _
            obtain ⟨y0, y1, y2, y3, y4, y5, y6, y7, y8, y9, yA⟩ := ChgC.cells R1; have hl1 := qa0 R1; have HR1 := hid R1; have HB5 := hid (HBJ.out.trans (bk5.mono HBJ.out.size)); have HR05 := hid (qac bk5 hl0j HR0J.out); have hl05 := Nat.lt_of_lt_of_le hl0j bk5.size; obtain ⟨yb, hyb⟩ : ∃ yb, yb = wr.heap.size := ⟨_, rfl⟩; rw [← hyb] at HR1 y0 y1 y2 y3 y4 y5 y6 y7 y8 y9 yA hl1 ⊢; have HYV := hid y.v_eq; clear hw5 R1 bk5 hyb k0 k1 k2 k3 k4 k5 k6 k7 k8 k9 kA HR0J hl0j c0 c1 c2 c3 c4 c5 c6 c7 c8 c9 cA; go_wp2_with fail; have TM := qf4 y w5; rw [HYV.out] at TM; refine TM.mono ?_; rintro e w6 ⟨rfl, hb6⟩; have R1 := qac hb6 hl1 HR1.out; have R0 := qac hb6 hl05 HR05.out; obtain ⟨y0, y1, y2, y3, y4, y5, y6, y7, y8, y9, yA⟩ := ChgC.cells R1; obtain ⟨c0, c1, c2, c3, c4, c5, c6, c7, c8, c9, cA⟩ := ChgC.cells R0; have hl1 := qa0 R1; have hl0 := qa0 R0; have HB6 := hid (HB5.out.trans (hb6.mono HB5.out.size)); clear hb6 R1 R0 HB5 HR1 HR05 hl05 TM; cases hny : qbv y with
            | false =>
             have HNY := hid hny; clear hny; go_wp2_with fail; exact ⟨⟨j + 1, by omega, by go_num, fun i hi h2 h3 => (by
              by_cases hik : i = j
              · subst hik; rw [← HY.out, HNY.out] at h3; cases h3
              · exact HNJ.out i hi (by omega) h3), HB6.out⟩, by simp [intOf]; omega⟩
            | true =>
             have HNY := hid hny; clear hny; cases hle : (y.line == x.line) with
             | false =>
              have HLE := hid hle; go_wp2_with fail; exact ⟨⟨j + 1, by omega, by go_num, fun i hi h2 h3 => (by
               by_cases hik : i = j
               · subst hik; rw [← HY.out]; exact beq_eq_false_iff_ne.1 HLE.out
               · exact HNJ.out i hi (by omega) h3), HB6.out⟩, by simp [intOf]; omega⟩
             | true =>
              have HLE := hid hle; go_wp2_with fail; go_ret; exact ⟨false, rfl, HB4.out.trans (HB6.out.mono HB4.out.size), (fun h0 => by cases h0), fun _ => ⟨k, hlt, by rw [← HX.out]; exact HND.out, .inr (.inr ⟨j, hjl, by rw [← HY.out]; exact HNY.out, by rw [← HX.out, ← HY.out]; exact beq_iff_eq.1 HLE.out⟩)⟩⟩
          · obtain rfl : j = k := by omega
            clear hbj; go_wp2_with fail; exact ⟨⟨j + 1, by omega, by go_num, fun i hi h2 => (by
             by_cases hik : i = j
             · subst hik
               intro _
               refine ⟨?_, by rw [← HX.out]; exact HU.out, fun q hq hnq => by rw [← HX.out]; exact HNJ.out q (by omega) hq hnq⟩
               have := HOFR.out
               rw [HCC.out] at this
               rw [← HX.out]
               exact this
             · exact HNO.out i hi (by omega)), HB4.out.trans (HBJ.out.mono HB4.out.size)⟩, by simp [intOf]; omega⟩
      · have hccb : (cc != x.cls) = true := by rw [bne_iff_ne]; exact hcc
        have HCC := hid hcc; clear hcc; go_wp2_with fail; go_ret; exact ⟨false, rfl, HB3.out, (fun h0 => by cases h0), fun _ => ⟨k, hlt, by rw [← HX.out]; exact HND.out, .inl ⟨cc, true, by rw [← HX.out]; exact HOFR.out, .inr (by rw [← HX.out]; exact HCC.out)⟩⟩⟩
  · obtain rfl : k = l.length := by omega
    clear hbr; go_wp2_with fail; go_ret; exact ⟨true, rfl, HBR.out, fun _ i hi => HNO.out i hi hi, fun h0 => by cases h0⟩
end
end
section
open Go.RowKit
def qbw (x : ChgC) : Bool := x.kind == 2 || x.kind == 3 || x.kind == 4 || (x.kind == 5 && x.had)
def qci (x y : ChgC) : Bool := (qcf x && qcf y && (x.key.toList == y.key.toList)) || (x.kind == 5 && y.kind == 5)
def qec (l : List ChgC) : Prop := 1 ≤ l.length ∧ l.length ≤ 3 ∧ ∀ i (h : i < l.length), qbw l[i] = true ∧ ∀ j (hj : j < i), qci l[i] (l[j]'(by omega)) = false
def qob (l : List ChgC) (w : World) (e : Ending) (w' : World) : Prop := ∃ r, e = .returned (.bool r) ∧ Below w.heap.size w w' ∧ (r = true → qec l) ∧ (r = false → ¬ qec l)
theorem qpz (l : List ChgC) (A : Option Addr) (c : Nat) (w : World) (hA : Arr ChgC.enc 11 w w.heap.size A l) (hc : l.length ≤ c) (_hm : c ≤ 9223372036854775807) : Calls prog 304 #[.slice A l.length c] w (qob l w) := by
 by_cases h1 : 1 ≤ l.length; rotate_left
 · have i1 : (l.length : Int) < 1 := by omega
   have H1 := hid h1; clear h1; go_enter func304, ntmps304; go_wp2_with fail; go_ret; exact ⟨false, rfl, Below.refl _ _, (fun h0 => by cases h0), fun _ h => H1.out h.1⟩
 by_cases h3 : l.length ≤ 3; rotate_left
 · have i1 : ¬ (l.length : Int) < 1 := by omega
   have i3 : (3 : Int) < (l.length : Int) := by omega
   have H3 := hid h3; clear h1 h3; go_enter func304, ntmps304; go_wp2_with fail; go_ret; exact ⟨false, rfl, Below.refl _ _, (fun h0 => by cases h0), fun _ h => H3.out h.2.1⟩
 have j1 : ¬ (l.length : Int) < 1 := by omega
 have j3 : ¬ (3 : Int) < (l.length : Int) := by omega
 have HA := hid hA; have H1 := hid h1; have H3 := hid h3; clear h1 hA; go_enter func304, ntmps304; go_wp2_with fail; go_loopw [17] (fun v17 wr => ∃ k : Nat, k ≤ l.length ∧ v17 = .int .i64 k ∧ (∀ i (h : i < l.length), i < k → qbw l[i] = true ∧ ∀ j (hj : j < i), qci l[i] (l[j]'(by omega)) = false) ∧ Below w.heap.size w wr) (fun v17 _ => l.length - (intOf v17).toNat)
 case atStart => exact ⟨0, Nat.zero_le _, rfl, fun i _ hi => absurd hi (Nat.not_lt_zero i), Below.refl _ _⟩
 case round =>
  obtain ⟨k, hkl, rfl, hno, hbr⟩ := hrel; have HNO := hid hno; have HBR := hid hbr; clear hno; by_cases hlt : k < l.length
  · obtain ⟨b, off, rfl, hB, k0, k1, k2, k3, k4, k5, k6, k7, k8, k9, kA⟩ := ((HA.out.below hbr).more hbr.size).chg hlt
    have i1 : (0 : Int) ≤ (k : Int) := by omega
    have i2 : (k : Int) < (l.length : Int) := by omega
    obtain ⟨x, hx⟩ : ∃ x, x = l[k] := ⟨_, rfl⟩; rw [← hx] at k0 k1 k2 k3 k4 k5 k6 k7 k8 k9 kA; have HX := hid hx; clear hbr hx; go_upto_region 6 with fail; generalize hw1 : World.alloc _ _ = w1; have R0 : w1.heap[wr.heap.size]? = some (.cells x.enc.toArray 376 (0, 0)) := by rw [← hw1]; exact qea _ x _
    have b1 : Below w.heap.size w w1 := by rw [← hw1]; exact HBR.out.alloc HBR.out.size _
    obtain ⟨c0, c1, c2, c3, c4, c5, c6, c7, c8, c9, cA⟩ := ChgC.cells R0; have hl0 := qa0 R0; have HR0 := hid R0; have HB1 := hid b1; obtain ⟨vb, hvb⟩ : ∃ vb, vb = wr.heap.size := ⟨_, rfl⟩; rw [← hvb] at HR0 c0 c1 c2 c3 c4 c5 c6 c7 c8 c9 cA hl0 ⊢; clear hw1 R0 b1 k0 k1 k2 k3 k4 k5 k6 k7 k8 k9 kA hvb hB; go_upto_block 2 with fail; go_cut [] (fun wx => wx = w1 ∧ qbw x = true)
    case first =>
     by_cases e2 : x.kind = 2
     · have e : (x.kind == 2) = true := by rw [e2]; rfl
       have hk : qbw x = true := by simp [qbw, e]
       have HK := hid hk; clear e2 hk; go_wp2_with fail; go_meet; exact ⟨rfl, HK.out⟩
     by_cases e3 : x.kind = 3
     · have e : (x.kind == 3) = true := by rw [e3]; rfl
       have e' : (x.kind == 2) = false := by rw [e3]; rfl
       have hk : qbw x = true := by simp [qbw, e]
       have HK := hid hk; clear e2 e3 hk; go_wp2_with fail; go_meet; exact ⟨rfl, HK.out⟩
     by_cases e4 : x.kind = 4
     · have e : (x.kind == 4) = true := by rw [e4]; rfl
       have e' : (x.kind == 2) = false := by rw [e4]; rfl
       have e'' : (x.kind == 3) = false := by rw [e4]; rfl
       have hk : qbw x = true := by simp [qbw, e]
       have HK := hid hk; clear e2 e3 e4 hk; go_wp2_with fail; go_meet; exact ⟨rfl, HK.out⟩
     have b2 : (x.kind == 2) = false := by rw [beq_eq_false_iff_ne]; exact e2
     have b3 : (x.kind == 3) = false := by rw [beq_eq_false_iff_ne]; exact e3
     have b4 : (x.kind == 4) = false := by rw [beq_eq_false_iff_ne]; exact e4
     by_cases e5 : x.kind = 5
     · have b5 : (x.kind == 5) = true := by rw [e5]; rfl
       cases hd : x.had with
       | true =>
        have hk : qbw x = true := by simp [qbw, b5, hd]
        have HK := hid hk; rw [hd] at c3; clear e2 e3 e4 e5 hk hd; go_wp2_with fail; go_meet; exact ⟨rfl, HK.out⟩
       | false =>
        have hk : qbw x = false := by simp [qbw, b2, b3, b4, hd]
        have HK := hid hk; rw [hd] at c3; clear e2 e3 e4 e5 hk hd; go_wp2_with fail; go_ret; exact ⟨false, rfl, HB1.out, (fun h0 => by cases h0), fun _ h => by have := (h.2.2 k hlt).1; rw [← HX.out, HK.out] at this; cases this⟩
     · have b5 : (x.kind == 5) = false := by rw [beq_eq_false_iff_ne]; exact e5
       have hk : qbw x = false := by simp [qbw, b2, b3, b4, b5]
       have HK := hid hk; clear e2 e3 e4 e5 hk; go_wp2_with fail; go_ret; exact ⟨false, rfl, HB1.out, (fun h0 => by cases h0), fun _ h => by have := (h.2.2 k hlt).1; rw [← HX.out, HK.out] at this; cases this⟩
    obtain ⟨rfl, hko⟩ := hcut; have HKO := hid hko; clear hko; have hkc : (k : Int) ≤ (c : Int) := by omega
    obtain ⟨w4, hw4⟩ : ∃ x, x = wc := ⟨_, rfl⟩; subst hw4; have HB4 := HB1; have HXV := hid x.v_eq; clear HB1 HBR c0 c1 c2 c3 c4 c5 c6 c7 c8 c9 cA; go_wp2_with fail; go_loopw [37] (fun v37 wj => ∃ j : Nat, j ≤ k ∧ v37 = .int .i64 j ∧ (∀ i (hi : i < l.length), i < j → qci x l[i] = false) ∧ Below w4.heap.size w4 wj) (fun v37 _ => k - (intOf v37).toNat)
    case atStart => exact ⟨0, Nat.zero_le _, rfl, fun i _ hi => absurd hi (Nat.not_lt_zero i), Below.refl _ _⟩
    case round =>
     obtain ⟨j, hjk, rfl, hnj, hbj⟩ := hrel; have HNJ := hid hnj; have HBJ := hid hbj; have hl0j := Nat.lt_of_lt_of_le hl0 hbj.size; have R0 := qac hbj hl0 HR0.out; have HR0J := hid R0; clear hnj R0; by_cases hjl : j < k
     · have hjl' : j < l.length := by omega
       obtain ⟨b', off', hA', hB', k0, k1, k2, k3, k4, k5, k6, k7, k8, k9, kA⟩ := ((HA.out.below (HB4.out.trans (hbj.mono HB4.out.size))).more (HB4.out.trans (hbj.mono HB4.out.size)).size).chg hjl'; cases hA'
       have i1 : (0 : Int) ≤ (j : Int) := by omega
       have i2 : (j : Int) < (k : Int) := by omega
       obtain ⟨y, hy⟩ : ∃ y, y = l[j] := ⟨_, rfl⟩; rw [← hy] at k0 k1 k2 k3 k4 k5 k6 k7 k8 k9 kA; have HY := hid hy; clear hbj hy hB'; go_upto_region 17 with fail; generalize hw5 : World.alloc _ _ = w5; have R1 : w5.heap[wr.heap.size]? = some (.cells y.enc.toArray 376 (0, 0)) := by rw [← hw5]; exact qea _ y _
       have bk5 : Below wr.heap.size wr w5 := by rw [← hw5]; exact (Below.refl _ _).alloc (Nat.le_refl _) _
       obtain ⟨y0, y1, y2, y3, y4, y5, y6, y7, y8, y9, yA⟩ := ChgC.cells R1; have hl1 := qa0 R1; have HR1 := hid R1; have HB5 := hid (HBJ.out.trans (bk5.mono HBJ.out.size)); have R05 := qac bk5 hl0j HR0J.out; obtain ⟨c0, c1, c2, c3, c4, c5, c6, c7, c8, c9, cA⟩ := ChgC.cells R05; have HR05 := hid R05; have hl05 := Nat.lt_of_lt_of_le hl0j bk5.size; obtain ⟨yb, hyb⟩ : ∃ yb, yb = wr.heap.size := ⟨_, rfl⟩; rw [← hyb] at HR1 y0 y1 y2 y3 y4 y5 y6 y7 y8 y9 yA hl1 ⊢; have HYV := hid y.v_eq; clear hw5 R1 R05 bk5 hyb k0 k1 k2 k3 k4 k5 k6 k7 k8 k9 kA HR0J hl0j; go_wp2_with fail; have TM := qdf x w5; rw [HXV.out] at TM; refine TM.mono ?_; rintro e w6 ⟨rfl, hb6⟩; have R1 := qac hb6 hl1 HR1.out; have R0 := qac hb6 hl05 HR05.out; obtain ⟨y0, y1, y2, y3, y4, y5, y6, y7, y8, y9, yA⟩ := ChgC.cells R1; obtain ⟨c0, c1, c2, c3, c4, c5, c6, c7, c8, c9, cA⟩ := ChgC.cells R0; have hl1 := qa0 R1; have hl0 := qa0 R0; have HR1 := hid R1; have HR0 := hid R0; have HB6 := hid (HB5.out.trans (hb6.mono HB5.out.size)); clear hb6 R1 R0 HB5 HR05 hl05 TM; cases hmx : qcf x with
       | true =>
        have b5 : (x.kind == 5) = false := by
         rw [qcf, Bool.or_eq_true, beq_iff_eq, beq_iff_eq] at hmx; rw [beq_eq_false_iff_ne]; rcases hmx with h | h <;> rw [h] <;> decide
        have HMX := hid hmx; have HB5 := hid b5; clear hmx; go_wp2_with fail; have TM := qdf y w6; rw [HYV.out] at TM; refine TM.mono ?_; rintro e w7 ⟨rfl, hb7⟩; have R1 := qac hb7 hl1 HR1.out; have R0 := qac hb7 hl0 HR0.out; obtain ⟨y0, y1, y2, y3, y4, y5, y6, y7, y8, y9, yA⟩ := ChgC.cells R1; obtain ⟨c0, c1, c2, c3, c4, c5, c6, c7, c8, c9, cA⟩ := ChgC.cells R0; have hl1 := qa0 R1; have hl0 := qa0 R0; have HB6 := hid (HB6.out.trans (hb7.mono HB6.out.size)); clear hb7 R1 R0 HR1 HR0 TM; cases hmy : qcf y with
        | true =>
         have HMY := hid hmy; clear hmy; cases hke : (x.key.toList == y.key.toList) with
         | true =>
          have hcl : qci x y = true := by rw [qci, HMX.out, HMY.out, hke]; rfl
          have HCL := hid hcl; clear hcl; go_wp2_with fail; go_ret; exact ⟨false, rfl, HB4.out.trans (HB6.out.mono HB4.out.size), (fun h0 => by cases h0), fun _ h => by have := (h.2.2 k hlt).2 j hjl; rw [← HX.out, ← HY.out, HCL.out] at this; cases this⟩
         | false =>
          have hcl : qci x y = false := by rw [qci, HMX.out, HMY.out, hke, b5]; rfl
          have HCL := hid hcl; clear hcl; go_wp2_with fail; exact ⟨⟨j + 1, by omega, by go_num, fun i hi h2 => (by
           by_cases hik : i = j
           · subst hik; rw [← HY.out]; exact HCL.out
           · exact HNJ.out i hi (by omega)), HB6.out⟩, by simp [intOf]; omega⟩
        | false =>
         have HMY := hid hmy; clear hmy; have hcl : qci x y = false := by rw [qci, HMX.out, HMY.out, b5]; rfl
         have HCL := hid hcl; clear hcl; go_wp2_with fail; exact ⟨⟨j + 1, by omega, by go_num, fun i hi h2 => (by
          by_cases hik : i = j
          · subst hik; rw [← HY.out]; exact HCL.out
          · exact HNJ.out i hi (by omega)), HB6.out⟩, by simp [intOf]; omega⟩
       | false =>
        have HMX := hid hmx; clear hmx; cases h5 : (x.kind == 5) with
        | false =>
         have hcl : qci x y = false := by rw [qci, HMX.out, h5]; rfl
         have HCL := hid hcl; clear hcl; go_wp2_with fail; exact ⟨⟨j + 1, by omega, by go_num, fun i hi h2 => (by
          by_cases hik : i = j
          · subst hik; rw [← HY.out]; exact HCL.out
          · exact HNJ.out i hi (by omega)), HB6.out⟩, by simp [intOf]; omega⟩
        | true =>
         cases h6 : (y.kind == 5) with
         | false =>
          have hcl : qci x y = false := by rw [qci, HMX.out, h5, h6]; rfl
          have HCL := hid hcl; clear hcl; go_wp2_with fail; exact ⟨⟨j + 1, by omega, by go_num, fun i hi h2 => (by
           by_cases hik : i = j
           · subst hik; rw [← HY.out]; exact HCL.out
           · exact HNJ.out i hi (by omega)), HB6.out⟩, by simp [intOf]; omega⟩
         | true =>
          have hcl : qci x y = true := by rw [qci, HMX.out, h5, h6]; rfl
          have HCL := hid hcl; clear hcl; go_wp2_with fail; go_ret; exact ⟨false, rfl, HB4.out.trans (HB6.out.mono HB4.out.size), (fun h0 => by cases h0), fun _ h => by have := (h.2.2 k hlt).2 j hjl; rw [← HX.out, ← HY.out, HCL.out] at this; cases this⟩
     · obtain rfl : j = k := by omega
       clear hbj; go_wp2_with fail; exact ⟨⟨j + 1, by omega, by go_num, fun i hi h2 => (by
        by_cases hik : i = j
        · subst hik
          exact ⟨by rw [← HX.out]; exact HKO.out, fun q hq => by rw [← HX.out]; exact HNJ.out q (by omega) hq⟩
        · exact HNO.out i hi (by omega)), HB4.out.trans (HBJ.out.mono HB4.out.size)⟩, by simp [intOf]; omega⟩
  · obtain rfl : k = l.length := by omega
    clear hbr; go_wp2_with fail; go_ret; exact ⟨true, rfl, HBR.out, fun _ => ⟨H1.out, H3.out, fun i hi => HNO.out i hi hi⟩, fun h0 => by cases h0⟩
end
end Go.Proofs.YtecikkjbnkhhkaaGreat
