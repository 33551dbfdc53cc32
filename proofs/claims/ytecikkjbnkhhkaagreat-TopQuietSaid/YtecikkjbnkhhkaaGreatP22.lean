/- A part of the walk. -/
import Derived.Test.YtecikkjbnkhhkaaGreatP15
import Derived.Test.YtecikkjbnkhhkaaGreatP21
namespace Go.Proofs.YtecikkjbnkhhkaaGreat
open _root_.Go.Proofs.Tryz
set_option maxHeartbeats 4000000
set_option maxRecDepth 100000
section
open Go.RowKit
theorem Own.setCall {w : World} {lo : Nat} {b off c : Nat} {l : List qa7} (h : Own qa7.enc 40 5 w lo (some ⟨b, off, none⟩) c l) {i : Nat} (hi : i < l.length) (x : qa7) :
 Own qa7.enc 40 5 (w.setCells b (off + i * 5) x.enc) lo (some ⟨b, off, none⟩) c (l.set i x) := by
 obtain ⟨h1, h2, h3⟩ := h; rcases h3 with h3 | ⟨b', off', cur, hA, hlo, hh, hs, hc⟩
 · omega
 cases hA
 obtain ⟨cur', g1, g2, g3, g4, g5⟩ := qax x.enc (off + i * 5) w cur hh (by rw [qa7.enc_len]; omega); rw [qa7.enc_len] at g4; refine ⟨by rw [List.length_set]; exact h1, h2, .inr ⟨b, off, cur', rfl, hlo, g1, by omega, ?_⟩⟩; intro j u hu; have hlt := (List.getElem?_eq_some_iff.1 hu).1; rw [qao qa7.enc_len, List.length_set] at hlt; obtain ⟨q, r, rfl, hq, hr⟩ : ∃ q r, j = q * 5 + r ∧ q < l.length ∧ r < 5 := ⟨j / 5, j % 5, by omega, by omega, by omega⟩; rw [qb0 qa7.enc_len _ q (by rw [List.length_set]; exact hq) r hr, List.getElem_set] at hu; have hold := fun u' => hc (q * 5 + r) u'
 rw [qb0 qa7.enc_len l q hq r hr] at hold; by_cases hqi : i = q
 · subst hqi
   rw [if_pos rfl] at hu; have := g5 r u hu; rwa [Nat.add_assoc] at this
 · rw [if_neg hqi] at hu
   by_cases hlq : q < i
   · rw [g3 _ (by omega)]; exact hold u hu
   · rw [g4 _ (by omega)]; exact hold u hu
def qbz (c : qa7) : Value := .agg #[.int .i64 c.kind, .string c.key, .string c.val, .string c.tx, .slice c.gA c.gn c.gc]
def Deep (w : World) (B : Nat) : Nat → qa7 → Prop
 | 0, _ => False
 | n + 1, c => ∃ g, qbr w B c g ∧ g.length ≤ 1000000 ∧ ∀ x ∈ g, Deep w B n x
theorem Deep.below {w w' : World} {B : Nat} (hb : Below B w w') : ∀ {n : Nat} {c : qa7}, Deep w B n c → Deep w' B n c
 | 0, _, h => h
 | _ + 1, _, ⟨g, h1, h2, h3⟩ => ⟨g, h1.below hb, h2, fun x hx => (h3 x hx).below hb⟩
theorem Deep.more {w : World} {B B' : Nat} (hB : B ≤ B') : ∀ {n : Nat} {c : qa7}, Deep w B n c → Deep w B' n c
 | 0, _, h => h
 | _ + 1, _, ⟨g, h1, h2, h3⟩ => ⟨g, h1.more hB, h2, fun x hx => (h3 x hx).more hB⟩
def qus (c : qa7) (g : List qa7) (w : World) (e : Ending) (w' : World) : Prop := ∃ (y : qa7) (M : List qa7), e = .returned (qbz y) ∧ CSim y c ∧ Sl qa7.enc 5 w' w'.heap.size y.gA y.gn y.gc M ∧ Sims M g ∧ Below w.heap.size w w' ∧ (M = [] ∨ ∃ x off, y.gA = some ⟨x, off, none⟩ ∧ w.heap.size ≤ x)
theorem qy5 {W W' : World} {n q : Nat} {u v0 v1 v2 v3 v4 : Value} (hb : Below W.heap.size W W') (hn : n < W.heap.size) (hq : q < W.heap.size)
 (h : W.cell? ⟨n, 4, none⟩ = some u ∧ W.cell? ⟨q, 0, none⟩ = some v0 ∧ W.cell? ⟨q, 1, none⟩ = some v1 ∧ W.cell? ⟨q, 2, none⟩ = some v2 ∧ W.cell? ⟨q, 3, none⟩ = some v3 ∧ W.cell? ⟨q, 4, none⟩ = some v4) :
 W'.cell? ⟨n, 4, none⟩ = some u ∧ W'.cell? ⟨q, 0, none⟩ = some v0 ∧ W'.cell? ⟨q, 1, none⟩ = some v1 ∧ W'.cell? ⟨q, 2, none⟩ = some v2 ∧ W'.cell? ⟨q, 3, none⟩ = some v3 ∧ W'.cell? ⟨q, 4, none⟩ = some v4 := by
 rw [hb.cell (p := ⟨n, 4, none⟩) hn, hb.cell (p := ⟨q, 0, none⟩) hq, hb.cell (p := ⟨q, 1, none⟩) hq, hb.cell (p := ⟨q, 2, none⟩) hq, hb.cell (p := ⟨q, 3, none⟩) hq, hb.cell (p := ⟨q, 4, none⟩) hq]; exact h
theorem qba {B : Nat} {w w' : World} {b : Nat} (h : Below B w w') (hb : B ≤ b) (o : Nat) (u0 u1 u2 u3 u4 : Value) : Below B w (((((w'.setCell ⟨b, o, none⟩ u0).setCell ⟨b, o + 1, none⟩ u1).setCell ⟨b, o + 2, none⟩ u2).setCell ⟨b, o + 3, none⟩ u3).setCell ⟨b, o + 4, none⟩ u4) :=
 ((((h.setCell hb _).setCell hb _).setCell hb _).setCell hb _).setCell hb _
theorem qco {w : World} {b p : Nat} (h : p ≠ b) (o : Nat) (u0 u1 u2 u3 u4 : Value) : (((((w.setCell ⟨b, o, none⟩ u0).setCell ⟨b, o + 1, none⟩ u1).setCell ⟨b, o + 2, none⟩ u2).setCell ⟨b, o + 3, none⟩ u3).setCell ⟨b, o + 4, none⟩ u4).heap[p]? = w.heap[p]? := by
 rw [Below.heap_setCell _ _ _ _ h, Below.heap_setCell _ _ _ _ h, Below.heap_setCell _ _ _ _ h, Below.heap_setCell _ _ _ _ h, Below.heap_setCell _ _ _ _ h]
theorem qcp {w : World} {b p o' : Nat} (h : p ≠ b) (o : Nat) (u0 u1 u2 u3 u4 : Value) : (((((w.setCell ⟨b, o, none⟩ u0).setCell ⟨b, o + 1, none⟩ u1).setCell ⟨b, o + 2, none⟩ u2).setCell ⟨b, o + 3, none⟩ u3).setCell ⟨b, o + 4, none⟩ u4).cell? ⟨p, o', none⟩ = w.cell? ⟨p, o', none⟩ := by
 unfold World.cell?; rw [qco h]
theorem qz4 {W : World} {n q b : Nat} {u v0 v1 v2 v3 v4 : Value} (hn : n ≠ b) (hq : q ≠ b) (o : Nat) (u0 u1 u2 u3 u4 : Value)
 (h : W.cell? ⟨n, 4, none⟩ = some u ∧ W.cell? ⟨q, 0, none⟩ = some v0 ∧ W.cell? ⟨q, 1, none⟩ = some v1 ∧ W.cell? ⟨q, 2, none⟩ = some v2 ∧ W.cell? ⟨q, 3, none⟩ = some v3 ∧ W.cell? ⟨q, 4, none⟩ = some v4) :
 (((((W.setCell ⟨b, o, none⟩ u0).setCell ⟨b, o + 1, none⟩ u1).setCell ⟨b, o + 2, none⟩ u2).setCell ⟨b, o + 3, none⟩ u3).setCell ⟨b, o + 4, none⟩ u4).cell? ⟨n, 4, none⟩ = some u ∧ (((((W.setCell ⟨b, o, none⟩ u0).setCell ⟨b, o + 1, none⟩ u1).setCell ⟨b, o + 2, none⟩ u2).setCell ⟨b, o + 3, none⟩ u3).setCell ⟨b, o + 4, none⟩ u4).cell? ⟨q, 0, none⟩ = some v0 ∧ (((((W.setCell ⟨b, o, none⟩ u0).setCell ⟨b, o + 1, none⟩ u1).setCell ⟨b, o + 2, none⟩ u2).setCell ⟨b, o + 3, none⟩ u3).setCell ⟨b, o + 4, none⟩ u4).cell? ⟨q, 1, none⟩ = some v1 ∧ (((((W.setCell ⟨b, o, none⟩ u0).setCell ⟨b, o + 1, none⟩ u1).setCell ⟨b, o + 2, none⟩ u2).setCell ⟨b, o + 3, none⟩ u3).setCell ⟨b, o + 4, none⟩ u4).cell? ⟨q, 2, none⟩ = some v2 ∧ (((((W.setCell ⟨b, o, none⟩ u0).setCell ⟨b, o + 1, none⟩ u1).setCell ⟨b, o + 2, none⟩ u2).setCell ⟨b, o + 3, none⟩ u3).setCell ⟨b, o + 4, none⟩ u4).cell? ⟨q, 3, none⟩ = some v3 ∧ (((((W.setCell ⟨b, o, none⟩ u0).setCell ⟨b, o + 1, none⟩ u1).setCell ⟨b, o + 2, none⟩ u2).setCell ⟨b, o + 3, none⟩ u3).setCell ⟨b, o + 4, none⟩ u4).cell? ⟨q, 4, none⟩ = some v4 := by
 rw [qcp hn, qcp hq, qcp hq, qcp hq, qcp hq, qcp hq]; exact h
structure qBf (w : World) (c : qa7) (g : List qa7) (A : Option Addr) (cc k : Nat) (wr : World) : Prop where
 own : ∃ M : List qa7, M.length = g.length ∧ Own qa7.enc 40 5 wr (w.heap.size + 2) A cc M ∧ (∀ i, k ≤ i → M[i]? = g[i]?) ∧ ∀ i (h1 : i < M.length) (h2 : i < g.length), i < k → CSim M[i] g[i] ∧ M[i].gc ≤ 9223372036854775807
 row0 : wr.heap[w.heap.size]? = some (.cells #[.int .i64 c.kind, .string c.key, .string c.val, .string c.tx, .slice A g.length cc] 40 (0, 0))
 row1 : wr.heap[w.heap.size + 1]? = some (.cells #[.int .i64 0, .string ByteArray.empty, .string ByteArray.empty, .string ByteArray.empty, .slice none 0 0] 40 (0, 0))
 below : Below w.heap.size w wr
 size : w.heap.size + 2 ≤ wr.heap.size
theorem qer (d : Nat) : ∀ (c : qa7) (g : List qa7) (w : World), qbr w w.heap.size c g → g.length ≤ 1000000 → (∀ x ∈ g, Deep w w.heap.size d x) → Calls prog 46 #[qbz c] w (qus c g w) := by
 induction d using Nat.strongRecOn with
 | _ d ih =>
  intro c g w hc hlen hdeep; have IH := hid ih; clear ih; obtain ⟨kind, key, val, to', gA, gn, gc⟩ := c; obtain rfl : gn = g.length := hc.len; have HC := hid hc; have HD := hid hdeep; have HL := hid hlen; clear hc hdeep hlen; unfold qbz; go_enter func46, ntmps46; go_wp2_with fail; refine (qhx g gA gc _ ?_ HC.out.cap HC.out.max HL.out).mono ?_
  · exact (HC.out.arr.below (by repeat (first | exact Below.refl _ _ | assumption | refine Below.drew ?_ | refine qa1 ?_ _ | refine Below.alloc ?_ (by first | omega | simp <;> omega) _ | refine Below.setCell ?_ (by first | omega | simp <;> omega) _))).more (by first | omega | simp <;> omega)
  rintro e w1 ⟨A, cc, rfl, hown, hb1⟩; have hz1 := hb1.size; simp only [World.size_alloc] at hz1; have hR0 : w1.heap[w.heap.size]? = some (.cells #[.int .i64 kind, .string key, .string val, .string to', .slice gA g.length gc] 40 (0, 0)) := (hb1.block _ (by simp; omega)).trans (by rw [qa2, if_neg (by simp), qa2, if_pos rfl]); have hR1 : w1.heap[w.heap.size + 1]? = some (.cells #[.int .i64 0, .string ByteArray.empty, .string ByteArray.empty, .string ByteArray.empty, .slice none 0 0] 40 (0, 0)) := (hb1.block _ (by simp)).trans (by rw [qa2, if_pos (by simp)]; rfl); have hB1 : Below w.heap.size w w1 := Below.trans (by repeat (first | exact Below.refl _ _ | assumption | refine Below.drew ?_ | refine qa1 ?_ _ | refine Below.alloc ?_ (by first | omega | simp <;> omega) _ | refine Below.setCell ?_ (by first | omega | simp <;> omega) _)) (hb1.mono (by first | omega | simp <;> omega)); have f4 := frozen_of_row w1 _ 4 _ _ hR0; have hl0 : w.heap.size < w1.heap.size := by omega
  have hS0 : (w1.setCell ⟨w.heap.size, 4, none⟩ (.slice A g.length cc)).heap[w.heap.size]? = some (.cells #[.int .i64 kind, .string key, .string val, .string to', .slice A g.length cc] 40 (0, 0)) := by
   have := heap_setCell_same _ (w.heap.size) 4 _ _ (.slice A g.length cc) hR0; exact this
  have hS1 : (w1.setCell ⟨w.heap.size, 4, none⟩ (.slice A g.length cc)).heap[w.heap.size + 1]? = _ := (Below.heap_setCell _ _ _ _ (by simp)).trans hR1; have hI : qBf w ⟨kind, key, val, to', gA, g.length, gc⟩ g A cc 0 (w1.setCell ⟨w.heap.size, 4, none⟩ (.slice A g.length cc)) :=
   ⟨⟨g, rfl, Own.setCell (hown.lower (by simp)) (by show w.heap.size < w.heap.size + 2; omega) _, fun _ _ => rfl, fun _ _ _ h => absurd h (by omega)⟩, hS0, hS1, hB1.setCell (Nat.le_refl _) _, by simp; omega⟩
  have HI := hid hI; have hm := hown.max; have hcl := hown.len; clear hI hS0 hS1 hown hb1 hB1; have c4 := cell_of_row w1 _ 4 _ _ _ hR0; go_wp2_with fail; go_loopw [12] (fun v12 wr => ∃ k : Nat, k ≤ g.length ∧ v12 = .int .i64 k ∧ qBf w ⟨kind, key, val, to', gA, g.length, gc⟩ g A cc k wr) (fun v12 _ => g.length - (intOf v12).toNat)
  case atStart => exact ⟨0, Nat.zero_le _, rfl, HI.out⟩
  case round =>
   obtain ⟨k, hkl, rfl, ⟨M, hML, hO, hMg, hMs⟩, hr0, hr1, hbr, hzr⟩ := hrel; by_cases hlt : k < g.length
   · have hMk : M[k]'(by omega) = g[k] := by
      have := hMg k (Nat.le_refl _); rw [List.getElem?_eq_getElem (by omega), List.getElem?_eq_getElem hlt] at this; exact Option.some.inj this
     obtain ⟨b, off, rfl, hlb, hbw⟩ : ∃ b off, A = some ⟨b, off, none⟩ ∧ w.heap.size + 2 ≤ b ∧ b < wr.heap.size := by
      rcases hO.lt with h0 | h0
      · omega
      · exact h0
     have f0 := hO.frozen rfl (by omega) (off + k * 5); have f1 := hO.frozen rfl (by omega) (off + k * 5 + 1); have f2 := hO.frozen rfl (by omega) (off + k * 5 + 2); have f3 := hO.frozen rfl (by omega) (off + k * 5 + 3); have f4 := hO.frozen rfl (by omega) (off + k * 5 + 4); obtain ⟨b', off', hA, hB, d0, d1, d2, d3, d4⟩ := (hO.arr qa7.enc_len).call0 (i := k) (by omega); cases hA
     rw [hMk] at d0 d1 d2 d3 d4; have HMS := hid hMs; clear hMs; obtain ⟨d', g', hd', hcg, hgl, hgd⟩ : ∃ d' g', d' < d ∧ qbr w w.heap.size g[k] g' ∧ g'.length ≤ 1000000 ∧ ∀ x ∈ g', Deep w w.heap.size d' x := by
      have h0 := HD.out g[k] (List.getElem_mem hlt); cases d with
      | zero => exact h0.elim
      | succ d' => obtain ⟨g', h1, h2, h3⟩ := h0; exact ⟨d', g', by omega, h1, h2, h3⟩
     have HGL := hid hgl; have HD' := hid hd'; clear hgl hd'; have n4 := cell_of_row wr _ 4 _ _ _ hr0; have HO := hid hO; have HR := hid hr0; have HS := hid hr1; have HG := hid hMg; have HDK := hid (hcg.below hbr); have HDD : Hid (∀ x ∈ g', Deep wr w.heap.size d' x) := hid fun x hx => (hgd x hx).below hbr
     have hsw : w.heap.size < wr.heap.size := by omega
     clear hO hr0 hr1 hMg hMk hcg hgd; have i1 : (0 : Int) ≤ (k : Int) := by omega
     have i2 : (k : Int) < (g.length : Int) := by omega
     go_upto_region 5 with fail; obtain ⟨wl, hwl⟩ : ∃ wl, wl = wr.alloc (.cells #[.int .i64 g[k].kind, .string g[k].key, .string g[k].val, .string g[k].tx, .slice g[k].gA g[k].gn g[k].gc] 40) := ⟨_, rfl⟩; rw [← hwl]; have zl : wl.heap.size = wr.heap.size + 1 := by rw [hwl]; simp
     have bl : Below wr.heap.size wr wl := by rw [hwl]; exact (Below.refl _ _).alloc (Nat.le_refl _) _
     have HK := hid (show wl.cell? ⟨w.heap.size, 4, none⟩ = some (.slice (some ⟨b, off, none⟩) g.length cc) ∧ wl.cell? ⟨wr.heap.size, 0, none⟩ = some (.int .i64 g[k].kind) ∧ wl.cell? ⟨wr.heap.size, 1, none⟩ = some (.string g[k].key) ∧ wl.cell? ⟨wr.heap.size, 2, none⟩ = some (.string g[k].val) ∧ wl.cell? ⟨wr.heap.size, 3, none⟩ = some (.string g[k].tx) ∧ wl.cell? ⟨wr.heap.size, 4, none⟩ = some (.slice g[k].gA g[k].gn g[k].gc) from ⟨(bl.cell (p := ⟨w.heap.size, 4, none⟩) hsw).trans n4, by rw [hwl]; simp [go_sem], by rw [hwl]; simp [go_sem], by rw [hwl]; simp [go_sem], by rw [hwl]; simp [go_sem], by rw [hwl]; simp [go_sem]⟩); have HOl := hid (HO.out.below bl); have HRl := hid ((bl.block _ hsw).trans HR.out); have HSl := hid ((bl.block (w.heap.size + 1) (by omega)).trans HS.out); have HDl := hid ((HDK.out.below (bl.mono hbr.size)).more (show w.heap.size ≤ wl.heap.size by omega)); have HDDl : Hid (∀ x ∈ g', Deep wl wl.heap.size d' x) := hid fun x hx => ((HDD.out x hx).below (bl.mono hbr.size)).more (show w.heap.size ≤ wl.heap.size by omega)
     have HBl := hid (hbr.trans (bl.mono hbr.size)); have f0l := (bl.frozen (p := ⟨b, off + k * 5, none⟩) hbw).trans f0; have f1l := (bl.frozen (p := ⟨b, off + k * 5 + 1, none⟩) hbw).trans f1; have f2l := (bl.frozen (p := ⟨b, off + k * 5 + 2, none⟩) hbw).trans f2; have f3l := (bl.frozen (p := ⟨b, off + k * 5 + 3, none⟩) hbw).trans f3; have f4l := (bl.frozen (p := ⟨b, off + k * 5 + 4, none⟩) hbw).trans f4; have d0l := (bl.cell (p := ⟨b, off + k * 5, none⟩) hbw).trans d0; have d1l := (bl.cell (p := ⟨b, off + k * 5 + 1, none⟩) hbw).trans d1; have d2l := (bl.cell (p := ⟨b, off + k * 5 + 2, none⟩) hbw).trans d2; have d3l := (bl.cell (p := ⟨b, off + k * 5 + 3, none⟩) hbw).trans d3; have d4l := (bl.cell (p := ⟨b, off + k * 5 + 4, none⟩) hbw).trans d4; clear d0 d1 d2 d3 d4; clear HO HR HS HDK HDD hbr bl f0 f1 f2 f3 f4 n4 hwl HI c4 hR0 hR1; have IHk : ∀ W : World, Below wl.heap.size wl W → Calls prog 46 #[.agg #[.int .i64 g[k].kind, .string g[k].key, .string g[k].val, .string g[k].tx, .slice g[k].gA g[k].gn g[k].gc]] W (qus g[k] g' W) := fun W hW => IH.out d' HD'.out g[k] g' W ((HDl.out.below hW).more hW.size) HGL.out fun x hx => ((HDDl.out x hx).below hW).more hW.size
     have hq : wr.heap.size < wl.heap.size := by omega
     have hn : w.heap.size < wl.heap.size := by omega
     have hbl : b < wl.heap.size := by omega
     have hnb : w.heap.size ≠ b := by omega
     have hqb : wr.heap.size ≠ b := by omega
     go_region_held3 (fun W => W.cell? ⟨w.heap.size, 4, none⟩ = some (.slice (some ⟨b, off, none⟩) g.length cc) ∧ W.cell? ⟨wr.heap.size, 0, none⟩ = some (.int .i64 g[k].kind) ∧ W.cell? ⟨wr.heap.size, 1, none⟩ = some (.string g[k].key) ∧ W.cell? ⟨wr.heap.size, 2, none⟩ = some (.string g[k].val) ∧ W.cell? ⟨wr.heap.size, 3, none⟩ = some (.string g[k].tx) ∧ W.cell? ⟨wr.heap.size, 4, none⟩ = some (.slice g[k].gA g[k].gn g[k].gc)) (first | (with_reducible refine qy5 (W := wl) ?_ hn hq HK.out; (repeat (first | with_reducible exact Below.refl _ _ | with_reducible assumption | with_reducible refine Below.drew ?_ | with_reducible refine qa1 ?_ _)); done) | with_reducible exact qz4 hnb hqb _ _ _ _ _ _ (qy5 (W := wl) stC hn hq HK.out) | go_keep) (first | (go_at_call 46; refine (IHk _ ?_).mono ?_; exact (by with_reducible repeat (first | exact Below.refl _ _ | assumption | refine Below.drew ?_ | refine qa1 ?_ _ | refine Below.alloc ?_ (by first | omega | simp <;> omega) _ | refine Below.setCell ?_ (by first | omega | simp <;> omega) _)); rintro e wC ⟨y, My, rfl, hsy, hslY, -, hbC, -⟩; have HSY := hid hsy; have HYC := hid hslY.2.2.2; clear hsy hslY; have sC := hbC.size; (try simp only [World.size_drew] at sC); have stC : Below wl.heap.size wl wC := (by refine Below.trans ?_ (hbC.mono ?_); exact (by with_reducible repeat (first | exact Below.refl _ _ | assumption | refine Below.drew ?_ | refine qa1 ?_ _ | refine Below.alloc ?_ (by first | omega | simp <;> omega) _ | refine Below.setCell ?_ (by first | omega | simp <;> omega) _)); (first | exact Nat.le_refl _ | (simp; done) | (simp; omega))); unfold qbz; have hblC : b < wC.heap.size := (by omega); have f0C := (stC.frozen (p := ⟨b, off + k * 5, none⟩) hbl).trans f0l; have f1C := (stC.frozen (p := ⟨b, off + k * 5 + 1, none⟩) hbl).trans f1l; have f2C := (stC.frozen (p := ⟨b, off + k * 5 + 2, none⟩) hbl).trans f2l; have f3C := (stC.frozen (p := ⟨b, off + k * 5 + 3, none⟩) hbl).trans f3l; have f4C := (stC.frozen (p := ⟨b, off + k * 5 + 4, none⟩) hbl).trans f4l; have d0C := (stC.cell (p := ⟨b, off + k * 5, none⟩) hbl).trans d0l; have d1C := (stC.cell (p := ⟨b, off + k * 5 + 1, none⟩) hbl).trans d1l; have d2C := (stC.cell (p := ⟨b, off + k * 5 + 2, none⟩) hbl).trans d2l; have d3C := (stC.cell (p := ⟨b, off + k * 5 + 3, none⟩) hbl).trans d3l; have d4C := (stC.cell (p := ⟨b, off + k * 5 + 4, none⟩) hbl).trans d4l)); all_goals
      have hR := qco hnb (off + k * 5) (.int .i64 y.kind) (.string y.key) (.string y.val) (.string y.tx) (.slice y.gA y.gn y.gc) |>.trans ((stC.block _ hn).trans HRl.out)
      have hS := qco (show w.heap.size + 1 ≠ b by omega) (off + k * 5) (.int .i64 y.kind) (.string y.key) (.string y.val) (.string y.tx) (.slice y.gA y.gn y.gc) |>.trans ((stC.block (w.heap.size + 1) (by omega)).trans HSl.out)
      have hO := ((HOl.out.below stC).setCall (i := k) (by omega) y); have hB := qba (HBl.out.trans (stC.mono (by omega))) (show w.heap.size ≤ b by omega) (off + k * 5) (.int .i64 y.kind) (.string y.key) (.string y.val) (.string y.tx) (.slice y.gA y.gn y.gc); have HR' := hid hR; have HS' := hid hS; have HO' := hid hO; have HB' := hid hB; clear hR hS hO hB d0C d1C d2C d3C d4C d0l d1l d2l d3l d4l; go_wp2_with fail; exact ⟨⟨k + 1, by omega, by go_num, ⟨M.set k y, by rw [List.length_set]; exact hML, HO'.out, (fun i hi => by rw [List.getElem?_set_ne (by omega)]; exact HG.out i (by omega)), fun i h1 h2 hi => by
       rw [List.length_set] at h1
       by_cases hik : k = i
       · subst hik
         rw [List.getElem_set_self]
         exact ⟨HSY.out, HYC.out⟩
       · rw [List.getElem_set_ne hik]
         exact HMS.out i h1 h2 (by omega)⟩, HR'.out, HS'.out, HB'.out, by simp only [World.size_setCell]; omega⟩, by simp [intOf]; omega⟩
   · obtain rfl : k = g.length := by omega
     have x0 := cell_of_row wr _ 0 _ _ _ hr0; have x1 := cell_of_row wr _ 1 _ _ _ hr0; have x2 := cell_of_row wr _ 2 _ _ _ hr0; have x3 := cell_of_row wr _ 3 _ _ _ hr0; have x4 := cell_of_row wr _ 4 _ _ _ hr0; have y0 := cell_of_row wr _ 0 _ _ _ hr1; have y1 := cell_of_row wr _ 1 _ _ _ hr1; have y2 := cell_of_row wr _ 2 _ _ _ hr1; have y3 := cell_of_row wr _ 3 _ _ _ hr1; have y4 := cell_of_row wr _ 4 _ _ _ hr1; have g0 := frozen_of_row wr _ 0 _ _ hr1; have g1 := frozen_of_row wr _ 1 _ _ hr1; have g2 := frozen_of_row wr _ 2 _ _ hr1; have g3 := frozen_of_row wr _ 3 _ _ hr1; have g4 := frozen_of_row wr _ 4 _ _ hr1; have hl1 : w.heap.size + 1 < wr.heap.size := by omega
     have hl2 : w.heap.size < wr.heap.size := by omega
     have HO := hid hO; have HMS := hid hMs; clear hr0 hr1 hO hMg hMs; go_wp2_with fail; refine bodyPost_ret (v := qbz ⟨kind, key, val, to', A, g.length, cc⟩) (by simp [results, results46, go_sem, qbz, y0, y1, y2, y3, y4]) rfl ⟨_, M, rfl, ⟨rfl, rfl, rfl, rfl, rfl⟩, ?_, ⟨hML, fun i h1 h2 => HMS.out i h1 h2 h2⟩, ?_, ?_⟩
     · have hlo1 : w.heap.size + 1 < w.heap.size + 2 := by omega
       exact ⟨(((((HO.out.setCell (p := ⟨w.heap.size + 1, 0, none⟩) hlo1 _).setCell (p := ⟨w.heap.size + 1, 1, none⟩) hlo1 _).setCell (p := ⟨w.heap.size + 1, 2, none⟩) hlo1 _).setCell (p := ⟨w.heap.size + 1, 3, none⟩) hlo1 _).setCell (p := ⟨w.heap.size + 1, 4, none⟩) hlo1 _).arr qa7.enc_len, hML.symm, by have := HO.out.len; omega, HO.out.max⟩
     · exact (by with_reducible repeat (first | exact Below.refl _ _ | assumption | refine Below.drew ?_ | refine qa1 ?_ _ | refine Below.alloc ?_ (by first | omega | simp <;> omega) _ | refine Below.setCell ?_ (by first | omega | simp <;> omega) _))
     · rcases HO.out.lt with h0 | ⟨x, off, hA, hx, _⟩
       · left
         have := HO.out.len; exact List.eq_nil_of_length_eq_zero (by omega)
       · exact .inr ⟨x, off, hA, by omega⟩
end
section
open Go.RowKit
def ansL (code : Int) (found : Bool) (vl : ByteArray) (A : Option Addr) (n c ep : Nat) : List Value := [.int .i64 code, .bool found, .string vl, .slice none 0 0, .slice A n c, .int .u64 (ep : Int)]
def ansV (code : Int) (found : Bool) (vl : ByteArray) (A : Option Addr) (n c ep : Nat) : Value := .agg (ansL code found vl A n c ep).toArray
theorem qko : (prog.info? 66).map (·.size) = some 6 := by kernel_rfl
def qxw (code : Int) (found : Bool) (vl : ByteArray) (hs : List Bool) (ep : Nat) (w : World) (e : Ending) (w' : World) : Prop := ∃ A' c', e = .returned (ansV code found vl A' hs.length c' ep) ∧ Own bitE 4 1 w' w.heap.size A' c' hs ∧ Below w.heap.size w w'
theorem qnv (code : Int) (found : Bool) (vl : ByteArray) (hs : List Bool) (A : Option Addr) (c ep : Nat) (w : World) (hA : Arr bitE 1 w w.heap.size A hs) (hb : hs.length ≤ 100000) :
 Calls prog 47 #[ansV code found vl A hs.length c ep] w (qxw code found vl hs ep w) := by
 have HA := hid hA; have HB := hid hb; have HV := hid (show ansV code found vl A hs.length c ep = .agg #[.int .i64 code, .bool found, .string vl, .slice none 0 0, .slice A hs.length c, .int .u64 (ep : Int)] from rfl); rw [HV.out]; clear hA hb HV; go_enter func47, ntmps47; go_upto_region 1 with fail; generalize hw1 : World.alloc _ _ = w1; have R0 : w1.heap[w.heap.size]? = some (.cells (ansL code found vl A hs.length c ep).toArray 66 (0, 0)) := by rw [← hw1]; exact (Below.heap_alloc _ _ _ (by simp)).trans ((qa2 _ _ _).trans (if_pos rfl))
 have R1 : w1.heap[w.heap.size + 1]? = some (.cells (ansL 0 false ByteArray.empty none 0 0 0).toArray 66 (0, 0)) := by rw [← hw1]; exact (qa2 _ _ _).trans (if_pos (by simp))
 have b1 : Below w.heap.size w w1 := by rw [← hw1]; exact ((Below.refl _ _).alloc (Nat.le_refl _) _).alloc (by simp) _
 have q3 : w1.cell? ⟨w.heap.size, 3, none⟩ = some (.slice none 0 0) := cell_of_row w1 _ 3 _ _ _ R0; have f3 := frozen_of_row w1 _ 3 _ _ R0; have hl1 := qa0 R1; have hl0 := qa0 R0; have HR0 := hid R0; have HR1 := hid R1; have HB1 := hid b1; clear hw1 R0 R1 b1; go_wp2_with fail; refine (qqt w1).mono ?_; rintro e w2 ⟨rfl, rfl⟩; go_upto_region 2 with fail; obtain ⟨w3, hw3⟩ : ∃ w3, w3 = w2.setCell ⟨w.heap.size, 3, none⟩ (.slice none 0 0) := ⟨_, rfl⟩; rw [← hw3]; have R0 : w3.heap[w.heap.size]? = some (.cells (ansL code found vl A hs.length c ep).toArray 66 (0, 0)) := by rw [hw3]; exact heap_setCell_same w2 _ 3 _ _ (.slice none 0 0) HR0.out
 have R1 := (show w3.heap[w.heap.size + 1]? = w2.heap[w.heap.size + 1]? by rw [hw3]; exact Below.heap_setCell _ _ _ _ (by simp)).trans HR1.out; have b3 : Below w.heap.size w w3 := by rw [hw3]; exact HB1.out.setCell (Nat.le_refl _) _
 have q4 : w3.cell? ⟨w.heap.size, 4, none⟩ = some (.slice A hs.length c) := cell_of_row w3 _ 4 _ _ _ R0; have hl1 := qa0 R1; have hl0 := qa0 R0; have HR0 := hid R0; have HR1 := hid R1; have HB3 := hid b3; clear hw3 R0 R1 b3 q3 f3; go_wp2_with fail; refine (qtk hs A c w3 ((HA.out.below HB3.out).more HB3.out.size) HB.out).mono ?_; rintro e w4 ⟨A', c', rfl, hown, hb4⟩; have R0 := qac hb4 hl0 HR0.out; have R1 := qac hb4 hl1 HR1.out; have q4 : w4.cell? ⟨w.heap.size, 4, none⟩ = some (.slice A hs.length c) := cell_of_row w4 _ 4 _ _ _ R0; have f4 := frozen_of_row w4 _ 4 _ _ R0; have hl0 := qa0 R0; have HR0 := hid R0; have HR1 := hid R1; have HO := hid (hown.lower (show w.heap.size + 2 ≤ w3.heap.size by omega)); have HB4 := hid (HB3.out.trans (hb4.mono HB3.out.size)); clear hown hb4 R0 R1; go_upto_region 3 with fail; obtain ⟨w5, hw5⟩ : ∃ w5, w5 = w4.setCell ⟨w.heap.size, 4, none⟩ (.slice A' hs.length c') := ⟨_, rfl⟩; rw [← hw5]; have R0 : w5.heap[w.heap.size]? = some (.cells (ansL code found vl A' hs.length c' ep).toArray 66 (0, 0)) := by rw [hw5]; exact heap_setCell_same w4 _ 4 _ _ (.slice A' hs.length c') HR0.out
 have R1 := (show w5.heap[w.heap.size + 1]? = w4.heap[w.heap.size + 1]? by rw [hw5]; exact Below.heap_setCell _ _ _ _ (by simp)).trans HR1.out; have HO5 : Hid (Own bitE 4 1 w5 (w.heap.size + 2) A' c' hs) := hid (by rw [hw5]; exact HO.out.setCell (by show w.heap.size < w.heap.size + 2; omega) _); have b5 : Below w.heap.size w w5 := by rw [hw5]; exact HB4.out.setCell (Nat.le_refl _) _
 have HRA := hid (qb5 R0); have TH := hid (qai (n := 6) R1 rfl); have HAL := hid (show (ansL code found vl A' hs.length c' ep).toArray.all (·.oneCell') = true by simp [ansL, Value.oneCell']); obtain ⟨w6, hw6⟩ : ∃ w6, w6 = w5.setCells (w.heap.size + 1) 0 (ansL code found vl A' hs.length c' ep).toArray.toList := ⟨_, rfl⟩; have RG : w6.rangeAt (w.heap.size + 1) 0 (ansL code found vl A' hs.length c' ep) := by rw [hw6]; exact World.rangeAt_setCells_same w5 (w.heap.size + 1) 0 _ TH.out
 have HO6 := hid (show Own bitE 4 1 w6 (w.heap.size + 2) A' c' hs by rw [hw6]; exact HO5.out.keep fun b' _ _ hlo _ => qaa _ _ _ _ _ (by omega)); have HB6 := hid (show Below w.heap.size w w6 by rw [hw6]; exact qae (by omega) _ _ _ b5); have HRG := hid RG; have HW6 := hid hw6; clear hw5 R0 R1 HO5 b5 hw6 RG HO HB4 q4 f4; go_wp2_with (first | (refine wpList_load_mid rfl 66 (.tmp 1) rfl w.heap.size 0 (by first | rfl | simp [Act.eval]) (ansL code found vl A' hs.length c' ep) _ HRA.out underlying66 rfl qko ?_) | (refine wpList_store_mid rfl 66 (.tmp 2) (.tmp 11) rfl (w.heap.size + 1) 0 (ansL code found vl A' hs.length c' ep).toArray (by first | rfl | simp [Act.eval]) (by first | rfl | simp [Act.eval]) TH.out qko HAL.out ?_; rw [← HW6.out])); refine bodyPost_ret (v := ansV code found vl A' hs.length c' ep) ?_ rfl ⟨A', c', rfl, HO6.out.lower (by omega), HB6.out⟩; exact qah results47 _ _ (w.heap.size + 1) _ _ rfl HRG.out underlying66 rfl qko
end
end Go.Proofs.YtecikkjbnkhhkaaGreat
