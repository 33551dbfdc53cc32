/- A part of the walk. -/
import Derived.Test.YtecikkjbnkhhkaaGreatP17
import Derived.Test.YtecikkjbnkhhkaaGreatP16
namespace Go.Proofs.YtecikkjbnkhhkaaGreat
open _root_.Go.Proofs.Tryz
set_option maxHeartbeats 2000000
set_option maxRecDepth 100000
section
open Go.RowKit
theorem Own.setGrp {w : World} {lo : Nat} {b off c : Nat} {l : List qa7} (h : Own qa7.enc 40 5 w lo (some ⟨b, off, none⟩) c l) {i : Nat} (hi : i < l.length) (A' : Option Addr) (n' c' : Nat) :
 Own qa7.enc 40 5 (w.setCell ⟨b, off + i * 5 + 4, none⟩ (.slice A' n' c')) lo (some ⟨b, off, none⟩) c (l.modify i fun x => ⟨x.kind, x.key, x.val, x.tx, A', n', c'⟩) := by
 obtain ⟨h1, h2, h3⟩ := h; rcases h3 with h3 | ⟨b', off', cur, hA, hlo, hh, hs, hc⟩
 · omega
 cases hA
 refine ⟨by rw [List.length_modify]; exact h1, h2, .inr ⟨b, off, cur.setIfInBounds (off + i * 5 + 4) (.slice A' n' c'), rfl, hlo, heap_setCell_same w b _ cur _ _ hh, by simpa using hs, ?_⟩⟩; intro j u hu; have hlt := (List.getElem?_eq_some_iff.1 hu).1; rw [qao qa7.enc_len, List.length_modify] at hlt; obtain ⟨q, r, rfl, hq, hr⟩ : ∃ q r, j = q * 5 + r ∧ q < l.length ∧ r < 5 := ⟨j / 5, j % 5, by omega, by omega, by omega⟩; rw [qb0 qa7.enc_len _ q (by rw [List.length_modify]; exact hq) r hr, List.getElem_modify] at hu; have hold := fun u' => hc (q * 5 + r) u'
 rw [qb0 qa7.enc_len l q hq r hr] at hold; by_cases hqi : i = q
 · subst hqi
   rw [if_pos rfl] at hu; rcases (by omega : r = 0 ∨ r = 1 ∨ r = 2 ∨ r = 3 ∨ r = 4) with rfl | rfl | rfl | rfl | rfl
   · rw [Array.getElem?_setIfInBounds_ne (by omega)]; exact hold u hu
   · rw [Array.getElem?_setIfInBounds_ne (by omega)]; exact hold u hu
   · rw [Array.getElem?_setIfInBounds_ne (by omega)]; exact hold u hu
   · rw [Array.getElem?_setIfInBounds_ne (by omega)]; exact hold u hu
   · simp only [qa7.enc, List.getElem?_cons_succ, List.getElem?_cons_zero, Option.some.injEq] at hu
     subst hu; rw [Nat.add_assoc off, Array.getElem?_setIfInBounds_self_of_lt (by omega)]
 · rw [if_neg hqi] at hu
   rw [Array.getElem?_setIfInBounds_ne (by omega)]; exact hold u hu
theorem qgg {α : Type} {enc : α → List Value} {e : TypeId} {k lo b : Nat} {A : Option Addr} {c : Nat} {l : List α} (hb : b < lo) : ∀ (vs : List Value) (o : Nat) (w : World), Own enc e k w lo A c l → Own enc e k (w.setCells b o vs) lo A c l
 | [], _, _, h => h
 | v :: r, o, _, h => qgg hb r (o + 1) _ (h.setCell (p := ⟨b, o, none⟩) hb v)
def Sims (gs g : List qa7) : Prop := gs.length = g.length ∧ ∀ i (h1 : i < gs.length) (h2 : i < g.length), CSim gs[i] g[i] ∧ gs[i].gc ≤ 9223372036854775807
theorem Sims.refl {g : List qa7} (h : ∀ x ∈ g, x.gc ≤ 9223372036854775807) : Sims g g := ⟨rfl, fun _i h1 _ => ⟨CSim.refl _, h _ (List.getElem_mem h1)⟩⟩
theorem Sims.set {gs g : List qa7} (h : Sims gs g) {i : Nat} (hi : i < g.length) (h0 : g[i].gn = 0) (A : Option Addr) {c : Nat} (hc : c ≤ 9223372036854775807) : Sims (gs.modify i fun x => ⟨x.kind, x.key, x.val, x.tx, A, 0, c⟩) g := by
 refine ⟨by rw [List.length_modify]; exact h.1, fun j h1 h2 => ?_⟩; rw [List.length_modify] at h1; rw [List.getElem_modify]; have hs := h.2 j h1 h2; split
 · rename_i e
   subst e; exact ⟨⟨hs.1.kind, hs.1.key, hs.1.val, hs.1.to', h0.symm⟩, hc⟩
 · exact hs
def qjg (kind : Int) (key val to' : ByteArray) (g : List qa7) (w : World) (e : Ending) (w' : World) : Prop :=
 ∃ A c gs, e = .returned (.agg (qch kind key val to' A g.length c).toArray) ∧ Arr qa7.enc 5 w' w'.heap.size A gs ∧ g.length ≤ c ∧ c ≤ 9223372036854775807 ∧ Sims gs g ∧ Below w.heap.size w w' ∧ (gs = [] ∨ ∃ x off, A = some ⟨x, off, none⟩ ∧ w.heap.size ≤ x)
theorem qAq {W W' : World} {n p : Nat} {u v0 v1 v2 v3 v4 : Value} (hb : Below W.heap.size W W') (hn : n < W.heap.size) (hp : p < W.heap.size)
 (h : W.cell? ⟨n, 4, none⟩ = some u ∧ W.cell? ⟨p, 0, none⟩ = some v0 ∧ W.cell? ⟨p, 1, none⟩ = some v1 ∧ W.cell? ⟨p, 2, none⟩ = some v2 ∧ W.cell? ⟨p, 3, none⟩ = some v3 ∧ W.cell? ⟨p, 4, none⟩ = some v4) :
 W'.cell? ⟨n, 4, none⟩ = some u ∧ W'.cell? ⟨p, 0, none⟩ = some v0 ∧ W'.cell? ⟨p, 1, none⟩ = some v1 ∧ W'.cell? ⟨p, 2, none⟩ = some v2 ∧ W'.cell? ⟨p, 3, none⟩ = some v3 ∧ W'.cell? ⟨p, 4, none⟩ = some v4 := by
 rw [hb.cell (p := ⟨n, 4, none⟩) hn, hb.cell (p := ⟨p, 0, none⟩) hp, hb.cell (p := ⟨p, 1, none⟩) hp, hb.cell (p := ⟨p, 2, none⟩) hp, hb.cell (p := ⟨p, 3, none⟩) hp, hb.cell (p := ⟨p, 4, none⟩) hp]; exact h
theorem qnr (kind : Int) (key val to' : ByteArray) (A : Option Addr) (c : Nat) (w : World) : (Instr.field 89 (.agg (qch kind key val to' A 0 c).toArray) 0).run prog w = .ok (.agg #[.int .i64 kind, .string key, .string val, .string to', .slice A 0 c]) w := by kernel_rfl
theorem qqi (kind : Int) (key val to' : ByteArray) (A : Option Addr) (c : Nat) (w : World) : (Instr.field 40 (.agg #[.int .i64 kind, .string key, .string val, .string to', .slice A 0 c]) 4).run prog w = .ok (.slice A 0 c) w := by kernel_rfl
theorem qwg {w : World} {lo b off c i : Nat} {l : List qa7} (h : Own qa7.enc 40 5 w lo (some ⟨b, off, none⟩) c l) (hi : i < l.length) : w.cell? ⟨b, off + i * 5 + 4, none⟩ = some (.slice l[i].gA l[i].gn l[i].gc) := by
 obtain ⟨b', off', hA, _, _, _, _, _, k4⟩ := (h.arr qa7.enc_len).call0 hi; cases hA
 exact k4
theorem qcq {W : World} {b j n i : Nat} {x : Value} (h : n ≠ b) : (W.setCell ⟨b, j, none⟩ x).cell? ⟨n, i, none⟩ = W.cell? ⟨n, i, none⟩ := by
 simp [go_sem]
theorem qAp {W : World} {n p b j : Nat} {x u v0 v1 v2 v3 v4 : Value} 
 (h : W.cell? ⟨n, 4, none⟩ = some u ∧ W.cell? ⟨p, 0, none⟩ = some v0 ∧ W.cell? ⟨p, 1, none⟩ = some v1 ∧ W.cell? ⟨p, 2, none⟩ = some v2 ∧ W.cell? ⟨p, 3, none⟩ = some v3 ∧ W.cell? ⟨p, 4, none⟩ = some v4) (hn : n ≠ b) (hp : p ≠ b) :
 (W.setCell ⟨b, j, none⟩ x).cell? ⟨n, 4, none⟩ = some u ∧ (W.setCell ⟨b, j, none⟩ x).cell? ⟨p, 0, none⟩ = some v0 ∧ (W.setCell ⟨b, j, none⟩ x).cell? ⟨p, 1, none⟩ = some v1 ∧ (W.setCell ⟨b, j, none⟩ x).cell? ⟨p, 2, none⟩ = some v2 ∧ (W.setCell ⟨b, j, none⟩ x).cell? ⟨p, 3, none⟩ = some v3 ∧ (W.setCell ⟨b, j, none⟩ x).cell? ⟨p, 4, none⟩ = some v4 := by
 rw [qcq hn, qcq hp, qcq hp, qcq hp, qcq hp, qcq hp]; exact h
theorem qtu (kind : Int) (key val to' : ByteArray) (gA : Option Addr) (g : List qa7) (gc : Nat) (w : World) (hA : Arr qa7.enc 5 w w.heap.size gA g) (hc : g.length ≤ gc) (hm : gc ≤ 9223372036854775807) (hl : g.length ≤ 100000) (h0 : 0 < g.length) (hgn : ∀ x ∈ g, x.gn = 0) (hgc : ∀ x ∈ g, x.gc ≤ 9223372036854775807) :
 Calls prog 81 #[.agg #[.int .i64 kind, .string key, .string val, .string to', .slice gA g.length gc]] w (qjg kind key val to' g w) := by
 have HA := hid hA; have HGN := hid hgn; have HGC := hid hgc; clear hA hgn hgc; go_enter func81, ntmps81; go_wp2_with fail; refine (qhx g gA gc _ ((HA.out.below (by repeat (first | exact Below.refl _ _ | assumption | refine Below.drew ?_ | refine qa1 ?_ _ | refine Below.alloc ?_ (by first | omega | simp <;> omega) _ | refine Below.setCell ?_ (by first | omega | simp <;> omega) _))).more (by first | omega | simp <;> omega)) hc hm (by omega)).mono ?_; rintro e w1 ⟨A1, c1, rfl, hown, hb1⟩; have hz := hb1.size; simp only [World.size_alloc] at hz; have hc1 := hown.max; have hc2 := hown.len; obtain ⟨b1, o1, rfl, hlo1⟩ : ∃ b1 o1, A1 = some ⟨b1, o1, none⟩ ∧ w.heap.size + 2 ≤ b1 := by
  rcases hown.lt with h | ⟨b, off, hA, hlo, _⟩
  · omega
  · exact ⟨b, off, hA, by simpa using hlo⟩
 have BX : w1.heap[w.heap.size]? = some (.cells #[.int .i64 kind, .string key, .string val, .string to', .slice gA g.length gc] 40 (0, 0)) := (hb1.block _ (by simp; omega)).trans (by rw [qa2, if_neg (by simp), qa2, if_pos rfl]); obtain ⟨cur, BY, hcur⟩ : ∃ cur, w1.heap[w.heap.size + 1]? = some (.cells cur 89 (0, 0)) ∧ cur.size = 28 := ⟨_, (hb1.block _ (by simp)).trans (by rw [qa2, if_pos (by simp)]), rfl⟩; have x0 := cell_of_row w1 _ 0 _ _ _ BX; have x1 := cell_of_row w1 _ 1 _ _ _ BX; have x2 := cell_of_row w1 _ 2 _ _ _ BX; have x3 := cell_of_row w1 _ 3 _ _ _ BX; have x4 := cell_of_row w1 _ 4 _ _ _ BX; have f4 := frozen_of_row w1 _ 4 _ _ BX; have hl1 : w.heap.size < w1.heap.size := by omega
 have hl2 : w.heap.size + 1 < w1.heap.size := by omega
 have bw1 : Below w.heap.size w w1 := Below.trans (by repeat (first | exact Below.refl _ _ | assumption | refine Below.drew ?_ | refine qa1 ?_ _ | refine Below.alloc ?_ (by first | omega | simp <;> omega) _ | refine Below.setCell ?_ (by first | omega | simp <;> omega) _)) (hb1.mono (show w.heap.size ≤ _ from (by first | omega | simp <;> omega))); have HCU := hid hcur; have HO1 := hid (hown.lower (lo' := w.heap.size + 2) (by simp)); clear hown hb1 hcur; go_wp2_with fail; obtain ⟨W, hW⟩ : ∃ W, W = w1.setCell ⟨w.heap.size, 4, none⟩ (.slice (some ⟨b1, o1, none⟩) g.length c1) := ⟨_, rfl⟩; rw [← hW]; have y0 : W.cell? ⟨w.heap.size, 0, none⟩ = some (.int .i64 kind) := by rw [hW]; simp [go_sem, x0]
 have y1 : W.cell? ⟨w.heap.size, 1, none⟩ = some (.string key) := by rw [hW]; simp [go_sem, x1]
 have y2 : W.cell? ⟨w.heap.size, 2, none⟩ = some (.string val) := by rw [hW]; simp [go_sem, x2]
 have y3 : W.cell? ⟨w.heap.size, 3, none⟩ = some (.string to') := by rw [hW]; simp [go_sem, x3]
 have y4 : W.cell? ⟨w.heap.size, 4, none⟩ = some (.slice (some ⟨b1, o1, none⟩) g.length c1) := by rw [hW]; simp [go_sem, x4]
 have HYS := hid (And.intro y0 (And.intro y1 (And.intro y2 (And.intro y3 y4)))); have bwW : Below w.heap.size w W := by rw [hW]; exact bw1.setCell (Nat.le_refl _) _
 have BYW : W.heap[w.heap.size + 1]? = some (.cells cur 89 (0, 0)) := by
  rw [hW]; exact (Below.heap_setCell _ _ _ _ (by show w.heap.size + 1 ≠ w.heap.size; omega)).trans BY
 have HOW := hid (show Own qa7.enc 40 5 W (w.heap.size + 2) (some ⟨b1, o1, none⟩) c1 g by rw [hW]; exact HO1.out.setCell (by show w.heap.size < w.heap.size + 2; omega) _); have hWs : w.heap.size + 2 ≤ W.heap.size := by rw [hW]; simp [World.setCell]; omega
 clear hW x0 x1 x2 x3 x4 f4 BX BY bw1 y0 y1 y2 y3 HO1; have HBYW := hid BYW; have HB := hid bwW; clear BYW bwW; go_loopw [12] (fun vi wr => ∃ (k : Nat) (gs : List qa7), k ≤ g.length ∧ vi = .int .i64 k ∧ Below (w.heap.size + 2) W wr ∧ Own qa7.enc 40 5 wr (w.heap.size + 2) (some ⟨b1, o1, none⟩) c1 gs ∧ Sims gs g) (fun vi _ => g.length - (intOf vi).toNat)
 case atStart => exact ⟨0, g, Nat.zero_le _, rfl, Below.refl _ _, HOW.out, Sims.refl HGC.out⟩
 case round =>
  clear y4; obtain ⟨k, gs, hkl, rfl, hb, hown, hsim⟩ := hrel; have HS := hid hsim; have HO := hid hown; have HBR := hid hb; have hbs := hb.size; have hb1s : b1 < wr.heap.size := by
   rcases hown.lt with h | ⟨b, off, hA, _, hlt⟩
   · omega
   · cases hA; exact hlt
  have y4 := (hb.cell (p := ⟨w.heap.size, 4, none⟩) (by simp)).trans HYS.out.2.2.2.2; have hl1r : w.heap.size < wr.heap.size := by omega
  clear hb hown hsim; by_cases hlt : k < g.length
  · have hlt' : k < gs.length := by have := HS.out.1; omega
    have z0 : (0 : Int) ≤ (k : Int) := by omega
    have z1 : (k : Int) < (g.length : Int) := by omega
    obtain ⟨b', off', hA1, hB', k0, k1, k2, k3, k4⟩ := (HO.out.arr qa7.enc_len).call0 hlt'; cases hA1
    have hgn0 : gs[k].gn = 0 := by rw [(HS.out.2 k hlt' hlt).1.gn]; exact HGN.out _ (List.getElem_mem hlt)
    have hgcm := (HS.out.2 k hlt' hlt).2; rw [hgn0] at k4; obtain ⟨X, hX⟩ : ∃ X, X = gs[k] := ⟨_, rfl⟩; rw [← hX] at k0 k1 k2 k3 k4 hgcm; have HX := hid hX; clear hX; go_upto_region 5 with fail; obtain ⟨V, hV⟩ : ∃ V, V = wr.alloc (.cells #[.int .i64 X.kind, .string X.key, .string X.val, .string X.tx, .slice X.gA 0 X.gc] 40) := ⟨_, rfl⟩; rw [← hV]; have bV : Below wr.heap.size wr V := by rw [hV]; exact (by repeat (first | exact Below.refl _ _ | assumption | refine Below.drew ?_ | refine qa1 ?_ _ | refine Below.alloc ?_ (by first | omega | simp <;> omega) _ | refine Below.setCell ?_ (by first | omega | simp <;> omega) _))
    have hVs : V.heap.size = wr.heap.size + 1 := by rw [hV]; simp
    have v4 := (bV.cell (p := ⟨w.heap.size, 4, none⟩) hl1r).trans y4; have u0 : V.cell? ⟨wr.heap.size, 0, none⟩ = some (.int .i64 X.kind) := by rw [hV]; simp [go_sem]
    have u1 : V.cell? ⟨wr.heap.size, 1, none⟩ = some (.string X.key) := by rw [hV]; simp [go_sem]
    have u2 : V.cell? ⟨wr.heap.size, 2, none⟩ = some (.string X.val) := by rw [hV]; simp [go_sem]
    have u3 : V.cell? ⟨wr.heap.size, 3, none⟩ = some (.string X.tx) := by rw [hV]; simp [go_sem]
    have u4 : V.cell? ⟨wr.heap.size, 4, none⟩ = some (.slice X.gA 0 X.gc) := by rw [hV]; simp [go_sem]
    have HALL := hid (And.intro v4 (And.intro u0 (And.intro u1 (And.intro u2 (And.intro u3 u4))))); have HOV := hid (HO.out.below bV); have HBV := hid (HBR.out.trans (bV.mono (by omega))); have hnV : w.heap.size < V.heap.size := by omega
    have hpV : wr.heap.size < V.heap.size := by omega
    have hbV : b1 < V.heap.size := by omega
    have HGM := hid hgcm; have hnb : w.heap.size ≠ b1 := by omega
    have hpb : wr.heap.size ≠ b1 := by omega
    clear hV bV k0 k1 k2 k3 k4 y4 hgcm; have hfd := qnr X.kind X.key X.val X.tx; have hfd2 := qqi X.kind X.key X.val X.tx; go_region_held3 (fun W' => W'.cell? ⟨w.heap.size, 4, none⟩ = some (.slice (some ⟨b1, o1, none⟩) g.length c1) ∧ W'.cell? ⟨wr.heap.size, 0, none⟩ = some (.int .i64 X.kind) ∧ W'.cell? ⟨wr.heap.size, 1, none⟩ = some (.string X.key) ∧ W'.cell? ⟨wr.heap.size, 2, none⟩ = some (.string X.val) ∧ W'.cell? ⟨wr.heap.size, 3, none⟩ = some (.string X.tx) ∧ W'.cell? ⟨wr.heap.size, 4, none⟩ = some (.slice X.gA 0 X.gc)) (first | exact qAp (qAq (W := V) st2 hnV hpV HALL.out) hnb hpb | exact qAq (W := V) (by with_reducible repeat (first | exact Below.refl _ _ | assumption | refine Below.drew ?_ | refine qa1 ?_ _ | refine Below.alloc ?_ (by first | omega | simp <;> omega) _ | refine Below.setCell ?_ (by first | omega | simp <;> omega) _)) hnV hpV HALL.out | go_keep) (first | (go_at_call 81; refine (qjb X.kind X.key X.val X.tx X.gA X.gc _ HGM.out).mono ?_; rintro e w2 ⟨A2, c2, rfl, hc2m, hb2⟩; have st2 : Below V.heap.size V w2 := (by refine Below.trans ?_ (hb2.mono ?_); exact (by with_reducible repeat (first | exact Below.refl _ _ | assumption | refine Below.drew ?_ | refine qa1 ?_ _ | refine Below.alloc ?_ (by first | omega | simp <;> omega) _ | refine Below.setCell ?_ (by first | omega | simp <;> omega) _)); (first | exact Nat.le_refl _ | (simp; done))); have hO2 := hid (HOV.out.below st2); have e4 := qwg hO2.out hlt'; have f4 := hO2.out.frozen rfl (show 0 < c1 by omega) (o1 + k * 5 + 4))); have HSET := hid (hO2.out.setGrp hlt' A2 0 c2); have HS2 := hid (HS.out.set hlt (HGN.out _ (List.getElem_mem hlt)) A2 hc2m); have HB2 := hid (HBV.out.trans (st2.mono (by omega))); go_wp2_with fail; exact ⟨⟨k + 1, _, by omega, by go_num, HB2.out.setCell (by show w.heap.size + 2 ≤ b1; omega) _, HSET.out, HS2.out⟩, by simp [intOf]; omega⟩
  · have y0 := (HBR.out.cell (p := ⟨w.heap.size, 0, none⟩) (by simp)).trans HYS.out.1
    have y1 := (HBR.out.cell (p := ⟨w.heap.size, 1, none⟩) (by simp)).trans HYS.out.2.1; have y2 := (HBR.out.cell (p := ⟨w.heap.size, 2, none⟩) (by simp)).trans HYS.out.2.2.1; have y3 := (HBR.out.cell (p := ⟨w.heap.size, 3, none⟩) (by simp)).trans HYS.out.2.2.2.1; have HT := hid (qai ((HBR.out.block (w.heap.size + 1) (by omega)).trans HBYW.out) HCU.out); have HSf := hid (all_oneCell_toArray (qlv kind key val to' (some ⟨b1, o1, none⟩) g.length c1)); have hgl : gs.length = g.length := HS.out.1; have HGL := hid hgl; clear hgl; go_wp2_with (refine wpList_store_mid (by first | rfl | (exfalso; fail)) 89 (.tmp 2) (.tmp 28) (by first | rfl | fail) (w.heap.size + 1) 0 (qch kind key val to' (some ⟨b1, o1, none⟩) g.length c1).toArray rfl (by rfl) HT.out qaf HSf.out ?_); have hO3 := qgg (b := w.heap.size + 1) (by omega) (qch kind key val to' (some ⟨b1, o1, none⟩) g.length c1) 0 _ HO.out; refine bodyPost_ret (v := .agg (qch kind key val to' (some ⟨b1, o1, none⟩) g.length c1).toArray) ?_ rfl ⟨_, c1, gs, rfl, hO3.arr qa7.enc_len, hc2, hc1, HS.out, ?_, .inr ⟨b1, o1, rfl, by omega⟩⟩
    · exact qah results81 _ _ (w.heap.size + 1) _ _ rfl (World.rangeAt_setCells_same wr (w.heap.size + 1) 0 (qch kind key val to' (some ⟨b1, o1, none⟩) g.length c1) HT.out) underlying89 rfl qaf
    · exact qae (by omega) _ _ _ (HB.out.trans (HBR.out.mono (by omega)))
theorem qtv (kind : Int) (key val to' : ByteArray) (gA : Option Addr) (g : List qa7) (gc : Nat) (w : World) (hA : Arr qa7.enc 5 w w.heap.size gA g) (hc : g.length ≤ gc) (hm : gc ≤ 9223372036854775807) (hl : g.length ≤ 100000) (hgn : ∀ x ∈ g, x.gn = 0) (hgc : ∀ x ∈ g, x.gc ≤ 9223372036854775807) :
 Calls prog 81 #[.agg #[.int .i64 kind, .string key, .string val, .string to', .slice gA g.length gc]] w (qjg kind key val to' g w) := by
 cases g with
 | nil => exact (qjb kind key val to' gA gc w hm).mono fun _ _ ⟨A, c, h1, h2, h3⟩ => ⟨A, c, [], h1, Arr.nil, Nat.zero_le _, h2, ⟨rfl, fun i h => absurd h (by simp)⟩, h3, .inl rfl⟩
 | cons x g => exact qtu kind key val to' gA (x :: g) gc w hA hc hm hl (by simp) hgn hgc
end
section
open Go.RowKit
def qi9 (a t : Nat) (f : qa5) : List Value := [.pointer (some ⟨a, 0, none⟩), .int .i64 (t : Int)] ++ f.enc
def qbq (w : World) (b a t : Nat) (ty : TypeId) (f : qa5) : Prop := w.heap[b]? = some (.cells (qi9 a t f).toArray ty (0, 0))
section
variable {w : World} {b a t : Nat} {ty : TypeId} {f : qa5}
theorem qbq.lt (h : qbq w b a t ty f) : b < w.heap.size := qa0 h
theorem qbq.fr (h : qbq w b a t ty f) (j : Nat) : w.frozen? ⟨b, j, none⟩ = false := frozen_of_row w b j _ _ h
theorem qbq.c (h : qbq w b a t ty f) (j : Nat) {v : Value} (hv : (qi9 a t f)[j]? = some v) : w.cell? ⟨b, j, none⟩ = some v :=
 (cell_of_row w b j _ _ _ h).trans (by rw [List.getElem?_toArray]; exact hv)
theorem qbq.set (h : qbq w b a t ty f) (k : Nat) (v : Value) (f' : qa5) (he : (qi9 a t f).set k v = qi9 a t f') : qbq (w.setCell ⟨b, k, none⟩ v) b a t ty f' := by
 have q := heap_setCell_same w b k _ _ v h; unfold qbq; rw [← he, ← List.setIfInBounds_toArray]; exact q
end
def SlG (g : Own8) {α : Type} (enc : α → List Value) (k : Nat) (w : World) (lo b : Nat) (A : Option Addr) (n c : Nat) (l : List α) : Prop := Sl enc k w w.heap.size A n c l ∧ (l = [] ∨ ∃ x off, A = some ⟨x, off, none⟩ ∧ g x = 0 ∧ x ≠ b ∧ x < lo)
def RowG (g : Own8) {α : Type} (enc : α → List Value) (e : TypeId) (k : Nat) (w : World) (lo : Nat) (A : Option Addr) (n c : Nat) (l : List α) : Prop := Own enc e k w lo A c l ∧ n = l.length ∧ qc8 g 0 A c
section
variable {α : Type} {enc : α → List Value} {e : TypeId} {k lo b n c : Nat} {A : Option Addr} {l : List α} {g g' : Own8} {w w' : World}
theorem SlG.keep (h : SlG g enc k w lo b A n c l) (hs : w.heap.size ≤ w'.heap.size) (hb : ∀ j, j < w.heap.size → g j = 0 → j ≠ b → j < lo → w'.heap[j]? = w.heap[j]?) (hg : ∀ j, j < w.heap.size → g' j = g j) : SlG g' enc k w' lo b A n c l := by
 obtain ⟨⟨h1, h2, h3, h4⟩, h5⟩ := h; rcases h5 with h5 | ⟨x, off, rfl, h6, h7, h8⟩
 · subst h5
   exact ⟨⟨Arr.nil, h2, h3, h4⟩, .inl rfl⟩
 · rcases h1 with h1 | ⟨b', off', hA, hlt, hc⟩
   · subst h1
     exact ⟨⟨Arr.nil, h2, h3, h4⟩, .inl rfl⟩
   · cases hA
     refine ⟨⟨.inr ⟨x, off, rfl, by omega, fun i hi j u hu => ?_⟩, h2, h3, h4⟩, .inr ⟨x, off, rfl, (hg x hlt).trans h6, h7, h8⟩⟩; exact (World.cell?_of_block (w := w) (hb x hlt h6 h7 h8)).trans (hc i hi j u hu)
theorem RowG.keep (h : RowG g enc e k w lo A n c l) (hb : ∀ j, j < w.heap.size → g j = 0 → some j = qa8 A c → w'.heap[j]? = w.heap[j]?) (hg : ∀ j, j < w.heap.size → g' j = g j) : RowG g' enc e k w' lo A n c l := by
 obtain ⟨h1, h2, h3⟩ := h; have hr := qcg h1; refine ⟨h1.keep2 ?_, h2, fun x hx => (hg x (hr x hx)).trans (h3 x hx)⟩; by_cases hc : c = 0
 · exact .inl hc
 · refine .inr fun x off hA hlt => hb x hlt (h3 x ?_) ?_
   · rw [qa8, if_neg hc, hA]; rfl
   · rw [qa8, if_neg hc, hA]; rfl
theorem RowG.nil : RowG g enc e k w lo none 0 0 [] := ⟨Own.none_, rfl, fun x hx => by simp [qa8] at hx⟩
theorem SlG.nil : SlG g enc k w lo b none 0 0 [] := ⟨Sl.nil, .inl rfl⟩
end
structure FrD where
 gr : List qa7
 bs : List UInt8
 ps : List qas
 hs : List Bool
def qoe (ty : TypeId) : Prop := ty = 281 ∨ ty = 287 ∨ ty = 299
structure WSt (g : Own8) (w : World) (lo a : Nat) (P : qag) (M : qa4) (b t : Nat) (ty : TypeId) (f : qa5) (d : FrD) : Prop where
 ar : qa6 g w a P M
 box : qbq w b a t ty f
 gb : g b = 0
 hty : qoe ty
 grp : SlG g qa7.enc 5 w lo b f.call.gA f.call.gn f.call.gc d.gr
 byt : RowG g byE 5 1 w lo f.bA f.bn f.bc d.bs
 prt : RowG g qas.enc 330 8 w lo f.pA f.pn f.pc d.ps
 hit : RowG g bitE 4 1 w lo f.hA f.hn f.hc d.hs
structure ExtB (lo b : Nat) (g g' : Own8) (w w' : World) : Prop where
 old : ∀ j, j < w.heap.size → g' j = g j
 only : Only (fun j => 0 < g j ∨ lo ≤ j ∨ j = b) w w'
theorem ExtB.refl (lo b : Nat) (g : Own8) (w : World) : ExtB lo b g g w w := ⟨fun _ _ => rfl, Only.refl _ _⟩
theorem ExtB.of_ext {lo b : Nat} {g g' : Own8} {w w' : World} (h : Ext g g' w w') : ExtB lo b g g' w w' := ⟨h.old, h.only.mono fun _ => .inl⟩
theorem ExtB.trans {lo b : Nat} {g g1 g2 : Own8} {w w1 w2 : World} (h : ExtB lo b g g1 w w1) (k : ExtB lo b g1 g2 w1 w2) : ExtB lo b g g2 w w2 := by
 have hs := h.only.size; refine ⟨fun j hj => (k.old j (by omega)).trans (h.old j hj), ⟨k.only.os.trans h.only.os, k.only.tape.trans h.only.tape, k.only.output.trans h.only.output, Nat.le_trans hs k.only.size, fun j hj hn => ?_⟩⟩; exact (k.only.block j (by omega) (by rw [h.old j hj]; exact hn)).trans (h.only.block j hj hn)
theorem ExtB.below {lo b : Nat} {g : Own8} {w w' : World} (h : Below w.heap.size w w') : ExtB lo b g g w w' := .of_ext (Ext.below h)
theorem ExtB.set {lo b : Nat} {g : Own8} {w : World} (o : Nat) (v : Value) : ExtB lo b g g w (w.setCell ⟨b, o, none⟩ v) := ⟨fun _ _ => rfl, (Only.refl _ w).setCell _ _ (.inr (.inr rfl))⟩
theorem ExtB.sets {lo b : Nat} {g : Own8} {w : World} (o : Nat) (vs : List Value) : ExtB lo b g g w (w.setCells b o vs) := by
 have hs := qam b vs o w; exact ⟨fun _ _ => rfl, ⟨hs.1, hs.2.1, hs.2.2.1, by rw [hs.2.2.2]; exact Nat.le_refl _, fun j _ hn => qaa b vs o w j (fun h => hn (.inr (.inr h)))⟩⟩
theorem ExtB.grown {lo b : Nat} {g : Own8} {w w' : World} {row : Option Nat} (h : w.grownBy w' row) (hr : ∀ j, row = some j → lo ≤ j) : ExtB lo b g g w w' := ⟨fun _ _ => rfl, Only.grown h fun j hj => .inr (.inl (hr j hj))⟩
theorem ExtB.ext {lo b : Nat} {g0 g g' : Own8} {w0 w w' : World} (e : Ext g0 g w0 w) (h : ExtB lo b g g' w w') (hb : w0.heap.size ≤ b) (hlo : w0.heap.size ≤ lo) : Ext g0 g' w0 w' := by
 have hs := e.only.size; refine ⟨fun j hj => (h.old j (by omega)).trans (e.old j hj), ⟨h.only.os.trans e.only.os, h.only.tape.trans e.only.tape, h.only.output.trans e.only.output, Nat.le_trans hs h.only.size, fun j hj hn => ?_⟩⟩; exact (h.only.block j (by omega) (by rw [e.old j hj]; omega)).trans (e.only.block j hj hn)
def qyc (f f' : qa5) : Prop := (f'.call.gA, f'.call.gn, f'.call.gc) = (f.call.gA, f.call.gn, f.call.gc) ∧ (f'.bA, f'.bn, f'.bc) = (f.bA, f.bn, f.bc) ∧ (f'.pA, f'.pn, f'.pc) = (f.pA, f.pn, f.pc) ∧ (f'.hA, f'.hn, f'.hc) = (f.hA, f.hn, f.hc)
section
variable {g g' : Own8} {w w' : World} {lo a b t : Nat} {P : qag} {M M' : qa4} {ty : TypeId} {f f' : qa5} {d d' : FrD}
theorem qa6.set0 (h : qa6 g w a P M) (hb : g b = 0) (o : Nat) (v : Value) : qa6 g (w.setCell ⟨b, o, none⟩ v) a P M :=
 h.nobody ((Only.refl _ w).setCell _ _ (.inl hb))
theorem qa6.sets0 (h : qa6 g w a P M) (hb : g b = 0) (o : Nat) (vs : List Value) : qa6 g (w.setCells b o vs) a P M := by
 have hs := qam b vs o w; exact h.nobody ⟨hs.1, hs.2.1, hs.2.2.1, by rw [hs.2.2.2]; exact Nat.le_refl _, fun j _ hn => qaa b vs o w j (fun e => hn (.inl (e ▸ hb)))⟩
theorem qoe.ne (h : qoe ty) : 5 ≠ ty ∧ 330 ≠ ty ∧ 4 ≠ ty := by
 rcases h with rfl | rfl | rfl <;> decide
theorem WSt.ext (h : WSt g w lo a P M b t ty f d) (ar : qa6 g' w' a P M') (e : Ext g g' w w') : WSt g' w' lo a P M' b t ty f d :=
 ⟨ar, (e.nobody h.box.lt h.gb).trans h.box, (e.old b h.box.lt).trans h.gb, h.hty, h.grp.keep e.only.size (fun _j hj h0 _ _ => e.nobody hj h0) e.old,
  h.byt.keep (fun _j hj h0 _ => e.nobody hj h0) e.old, h.prt.keep (fun _j hj h0 _ => e.nobody hj h0) e.old, h.hit.keep (fun _j hj h0 _ => e.nobody hj h0) e.old⟩
theorem WSt.below (h : WSt g w lo a P M b t ty f d) (hb : Below w.heap.size w w') : WSt g w' lo a P M b t ty f d := h.ext (h.ar.below hb) (Ext.below hb)
theorem WSt.drewN (h : WSt g w lo a P M b t ty f d) (n : Nat) : WSt g (w.drewN n) lo a P M b t ty f d := h.below (qa1 (Below.refl _ _) n)
theorem WSt.drew (h : WSt g w lo a P M b t ty f d) : WSt g w.drew lo a P M b t ty f d := h.below (Below.refl _ _).drew
theorem WSt.sets (h : WSt g w lo a P M b t ty f d) (k : Nat) (vs : List Value) (f' : qa5) (hw : qbq (w.setCells b k vs) b a t ty f') (hs : qyc f f') : WSt g (w.setCells b k vs) lo a P M b t ty f' d := by
 obtain ⟨h1, h2, h3, h4⟩ := hs; simp only [Prod.mk.injEq] at h1 h2 h3 h4; have hne := h.hty.ne; have hk : ∀ j, j ≠ b → (w.setCells b k vs).heap[j]? = w.heap[j]? := fun j hj => qaa b vs k w j hj
 have hz := (qam b vs k w).2.2.2; refine ⟨h.ar.sets0 h.gb k vs, hw, h.gb, h.hty, ?_, ?_, ?_, ?_⟩
 · rw [h1.1, h1.2.1, h1.2.2]
   exact h.grp.keep (by rw [hz]; exact Nat.le_refl _) (fun j _ _ hj _ => hk j hj) fun _ _ => rfl
 · rw [h2.1, h2.2.1, h2.2.2]
   exact h.byt.keep (fun j _ _ hr => hk j fun e => h.byt.1.notBox h.box hne.1 (e ▸ hr)) fun _ _ => rfl
 · rw [h3.1, h3.2.1, h3.2.2]
   exact h.prt.keep (fun j _ _ hr => hk j fun e => h.prt.1.notBox h.box hne.2.1 (e ▸ hr)) fun _ _ => rfl
 · rw [h4.1, h4.2.1, h4.2.2]
   exact h.hit.keep (fun j _ _ hr => hk j fun e => h.hit.1.notBox h.box hne.2.2 (e ▸ hr)) fun _ _ => rfl
theorem WSt.set (h : WSt g w lo a P M b t ty f d) (k : Nat) (v : Value) (f' : qa5) (he : (qi9 a t f).set k v = qi9 a t f') (hs : qyc f f') : WSt g (w.setCell ⟨b, k, none⟩ v) lo a P M b t ty f' d :=
 h.sets k [v] f' (h.box.set k v f' he) hs
theorem qe4 {α : Type} {enc : α → List Value} {e : TypeId} {k lo : Nat} {l : List α} {A : Option Addr} {c : Nat} {w : World} (ho : Own enc e k w lo A c l) : ∀ j, qa8 A c = some j → lo ≤ j := fun b hb => by
 rcases ho.lt with h0 | ⟨b', off, hA, hlo, _⟩
 · rw [qa8, if_pos h0] at hb; cases hb
 · rw [qa8] at hb
   split at hb
   · cases hb
   · rw [hA] at hb; cases hb; exact hlo
theorem qef {α : Type} {enc : α → List Value} {e : TypeId} {k lo : Nat} {l : List α} {A : Option Addr} {c : Nat} {w : World} (ho : Own enc e k w lo A c l) {j : Nat} (hj : qa8 A c = some j) : ∃ cur, w.heap[j]? = some (.cells cur e (0, 0)) := by
 rcases ho.2.2 with h0 | ⟨b', off, cur, hA, _, hh, _⟩
 · rw [qa8, if_pos h0] at hj; cases hj
 · rw [qa8] at hj
   split at hj
   · cases hj
   · rw [hA] at hj; cases hj; exact ⟨cur, hh⟩
theorem WSt.newBytes (h : WSt g w lo a P M b t ty f d) {A' : Option Addr} {c' n' : Nat} {bs' : List UInt8} (hg : w.grownBy w' (qa8 f.bA f.bc)) (hown : Own byE 5 1 w' lo A' c' bs') (hn : n' = bs'.length) (hloc : A' = f.bA ∧ c' = f.bc ∨ ∃ x, A' = some ⟨x, 0, none⟩ ∧ w.heap.size ≤ x) :
 WSt g (w'.setCell ⟨b, 21, none⟩ (.slice A' n' c')) lo a P M b t ty { f with bA := A', bn := n', bc := c' } { d with bs := bs' } ∧ ExtB lo b g g w (w'.setCell ⟨b, 21, none⟩ (.slice A' n' c')) := by
 have hne := h.hty.ne; have hrl := qcg h.byt.1; have hrb : ∀ j, qa8 f.bA f.bc = some j → j ≠ b := fun j hj e => h.byt.1.notBox h.box hne.1 (by rw [← e]; exact hj.symm)
 have hk : ∀ j, j < w.heap.size → qa8 f.bA f.bc ≠ some j → w'.heap[j]? = w.heap[j]? := fun j hj hr => hg.block j hj (fun e => hr e.symm)
 have box1 : qbq w' b a t ty f := (hk b h.box.lt (fun e => hrb b e rfl)).trans h.box; have bs1 : qbq (w'.setCell ⟨b, 21, none⟩ (.slice A' n' c')) b a t ty { f with bA := A', bn := n', bc := c' } := box1.set 21 _ _ rfl; have ho : ∀ j, j < w.heap.size → qa8 f.bA f.bc ≠ some j → j ≠ b → (w'.setCell ⟨b, 21, none⟩ (.slice A' n' c')).heap[j]? = w.heap[j]? := fun j hj hr hb => (Below.heap_setCell _ _ _ _ hb).trans (hk j hj hr)
 have hz : w.heap.size ≤ (w'.setCell ⟨b, 21, none⟩ (.slice A' n' c')).heap.size := by rw [World.size_setCell]; exact hg.size
 have hAr : qa6 g (w'.setCell ⟨b, 21, none⟩ (.slice A' n' c')) a P M := h.ar.nobody (Only.setCell (Only.grown hg fun j hj => .inl (h.byt.2.2 j hj)) _ _ (.inl h.gb)); refine ⟨⟨hAr, bs1, h.gb, h.hty, ?_, ⟨?_, hn, ?_⟩, ?_, ?_⟩, (ExtB.grown hg (qe4 h.byt.1)).trans (ExtB.set _ _)⟩
 · exact h.grp.keep hz (fun j hj _ hb hlt => ho j hj (fun e => by have := qe4 h.byt.1 j e; omega) hb) fun _ _ => rfl
 · refine hown.keep2 ?_
   by_cases hc : c' = 0
   · exact .inl hc
   · refine .inr fun x off hA hxlt => Below.heap_setCell _ _ _ _ fun e => ?_
     have e' : x = b := e; rcases hloc with ⟨rfl, rfl⟩ | ⟨y, rfl, hy⟩
     · exact hrb x (by rw [qa8, if_neg hc, hA]; rfl) e'
     · cases hA
       have := h.box.lt; omega
 · intro x hx
   rcases hloc with ⟨rfl, rfl⟩ | ⟨y, rfl, hy⟩
   · exact h.byt.2.2 x hx
   · rw [qa8] at hx
     split at hx
     · cases hx
     · cases hx; exact h.ar.far y hy
 · exact h.prt.keep (fun j hj _ hr => ho j hj (fun e => by
    obtain ⟨cur, hc⟩ := qef h.byt.1 e
    exact h.prt.1.notBox hc (by decide) hr) fun e => h.prt.1.notBox h.box hne.2.1 (e ▸ hr)) fun _ _ => rfl
 · exact h.hit.keep (fun j hj _ hr => ho j hj (fun e => by
    obtain ⟨cur, hc⟩ := qef h.byt.1 e
    exact h.hit.1.notBox hc (by decide) hr) fun e => h.hit.1.notBox h.box hne.2.2 (e ▸ hr)) fun _ _ => rfl
theorem WSt.callIn (h : WSt g w lo a P M b t ty f d) : qbr w w.heap.size f.call d.gr := ⟨h.grp.1.1, h.grp.1.2.1, h.grp.1.2.2.1, h.grp.1.2.2.2⟩
end
def WTo (lo a : Nat) (P : qag) (b t : Nat) (ty : TypeId) (g : Own8) (w : World) (M' : qa4) (f' : qa5) (d' : FrD) (w' : World) : Prop := ∃ g', WSt g' w' lo a P M' b t ty f' d' ∧ ExtB lo b g g' w w'
theorem WTo.trans {lo a b t : Nat} {P : qag} {ty : TypeId} {g g1 : Own8} {w w1 w' : World} {M' : qa4} {f' : qa5} {d' : FrD} (e : ExtB lo b g g1 w w1) (h : WTo lo a P b t ty g1 w1 M' f' d' w') : WTo lo a P b t ty g w M' f' d' w' := by
 obtain ⟨g2, h1, h2⟩ := h; exact ⟨g2, h1, e.trans h2⟩
end
section
open Go.RowKit
def VTo (lo a : Nat) (P : qag) (b t : Nat) (ty : TypeId) (g : Own8) (w : World) (M' : qa4) (f' : qa5) (d' : FrD) (r : Ending) (w' : World) : Prop := r = .returned (.tuple #[]) ∧ WTo lo a P b t ty g w M' f' d' w'
section
variable {g : Own8} {w : World} {lo a b t : Nat} {P : qag} {M : qa4} {ty : TypeId} {f : qa5} {d : FrD}
theorem qcb (h : WSt g w lo a P M b t ty f d) (e : Int) : Calls prog 244 #[.pointer (some ⟨b, 2, none⟩), .int .i64 e] w (VTo lo a P b t ty g w M { f with code := e, phase := 6 } d) := by
 have H := hid h; have c24 := h.box.c 24 rfl; have c7 := h.box.c 7 rfl; have f24 := h.box.fr 24; have f7 := h.box.fr 7; have hl := h.box.lt; clear h; go_enter func244, ntmps244; go_wp2; refine bodyPost_ret (v := .tuple #[]) (by simp [results, results244]) rfl ⟨rfl, g, (H.out.set 24 (.int .i64 e) { f with code := e } rfl ⟨rfl, rfl, rfl, rfl⟩).set 7 (.int .i64 6) { f with code := e, phase := 6 } rfl ⟨rfl, rfl, rfl, rfl⟩, (ExtB.set _ _).trans (ExtB.set _ _)⟩
theorem qa6.rdSet (h : qa6 g w a P M) {t : Nat} (ht : t < M.H.length) (v : Nat) : ATo g w (w.setCell ⟨P.rc, t, none⟩ (.int .u64 (v : Int))) a P { M with H := M.H.set t v } :=
 h.setRd ((Only.refl _ w).setCell _ _ (.inl h.rd.2.2)) (h.rd.1.set ht v)
theorem qg4 (h : WSt g w lo a P M b t ty f d) (ht : t < M.H.length) : Calls prog 249 #[.pointer (some ⟨a, 0, none⟩), .int .i64 (t : Int), .pointer (some ⟨b, 2, none⟩)] w (VTo lo a P b t ty g w { M with H := M.H.set t 0 } { f with phase := 7 } d) := by
 obtain ⟨g1, A1, E1⟩ := h.ar.rdSet ht 0; have H1 := hid (h.ext A1 E1); have HE := hid E1; have c7 := H1.out.box.c 7 rfl; have f7 := H1.out.box.fr 7; have hl := H1.out.box.lt; have TR := hid (qeb h.ar); have TL := hid (qsn w 0 P.rp P.rc M.rnow M.H h.ar.rd.1 t ht); clear h A1 E1; generalize (if M.H[t] = 0 then (12 : Int) else 0) = cd at TL; go_enter func249, ntmps249; go_wp2_with fail; refine TR.out.mono ?_; rintro e w1 ⟨rfl, rfl⟩; go_wp2_with fail; refine TL.out.mono ?_; rintro e w2 ⟨rfl, rfl⟩; generalize hw2 : World.setCell w1 _ _ = w2 at *; go_wp2_with fail; refine bodyPost_ret (v := .tuple #[]) (by simp [results, results249]) rfl ⟨rfl, g1, H1.out.set 7 (.int .i64 7) { f with phase := 7 } rfl ⟨rfl, rfl, rfl, rfl⟩, (ExtB.of_ext HE.out).trans (ExtB.set _ _)⟩
def qi6 (S S' : List qan) : Prop := S' = S ∨ ∃ (i k : Nat) (hi : i < S.length), S' = S.set i (S[i].gave k) ∧ ∃ hk : k < S[i].taken.length, S[i].taken[k] = true
theorem qmf (h : qa6 g w a P M) (line : Int) : Calls prog 270 #[.pointer (some ⟨P.pp, 0, none⟩), .int .i64 line] w fun r w' => ∃ (code : Int) (S' : List qan), r = .returned (.int .i64 code) ∧ qi6 M.S S' ∧ ATo g w w' a P { M with S := S' } := by
 refine (qwj w 0 P.pp P.sc M.S h.pool.1 line).mono ?_; rintro r w' ⟨code, S', rfl, hs, hp, hb, hk⟩; exact ⟨code, S', rfl, hs, h.setPool (qcx.of2 hb (fun j hj h1 _ => hk j hj h1) h.pool.2.2 h.pool.2.2) hp⟩
def qBp (lo a : Nat) (P : qag) (M : qa4) (b t : Nat) (ty : TypeId) (f : qa5) (d : FrD) (g : Own8) (w : World) (r : Ending) (w' : World) : Prop := r = .returned (.tuple #[]) ∧ ∃ S', qi6 M.S S' ∧ WTo lo a P b t ty g w { M with S := S' } { f with line := -1 } d w'
theorem qf9 (h : WSt g w lo a P M b t ty f d) : Calls prog 241 #[.pointer (some ⟨a, 0, none⟩), .pointer (some ⟨b, 2, none⟩)] w (qBp lo a P M b t ty f d g w) := by
 have H := hid h; have c18 := h.box.c 18 rfl; have hl := h.box.lt; have TP := hid (qi1 h.drew.ar); clear h; go_enter func241, ntmps241; go_upto_region 0 with fail; go_still_tail 6, (by kernel_rfl); still_call TP.out; repeat still_step
 refine wpStill_nil ?_; change wpList _ _ _ _ _ (World.drew w); have H1 := hid H.out.drew; have HE1 : Hid (ExtB lo b g g w w.drew) := hid (ExtB.below (Below.refl _ _).drew); generalize hw1 : World.drew w = w1 at *; clear hw1 c18 hl H TP; go_wp2_with fail; refine (qmf H1.out.ar f.line).mono ?_; rintro e w2 ⟨code, S', rfl, hs, g2, A2, E2⟩; have HS := hid hs; have h2 := H1.out.ext A2 E2; have H2 := hid h2; have HE2 := hid E2; have c18 := h2.box.c 18 rfl; have f18 := h2.box.fr 18; have hl := h2.box.lt; clear h2 A2 E2 hs; go_wp2_with fail; refine bodyPost_ret (v := .tuple #[]) (by simp [results, results241]) rfl ⟨rfl, S', HS.out, g2, H2.out.set 18 (.int .i64 (-1)) { f with line := -1 } rfl ⟨rfl, rfl, rfl, rfl⟩, (HE1.out.trans (.of_ext HE2.out)).trans (ExtB.set _ _)⟩
def qrd (lo a : Nat) (P : qag) (M : qa4) (b t : Nat) (ty : TypeId) (f : qa5) (d : FrD) (gi : Int) (h0 : Nat) (g : Own8) (w : World) (r : Ending) (w' : World) : Prop :=
 (gi ≠ 0 ∧ r = .returned (.bool false) ∧ WTo lo a P b t ty g w M { f with code := gi, phase := 7 } d w') ∨
 (gi = 0 ∧ h0 ≠ 0 ∧ r = .returned (.bool false) ∧ WTo lo a P b t ty g w M { f with code := 7, phase := 7 } d w') ∨
 (gi = 0 ∧ h0 = 0 ∧ r = .returned (.bool true) ∧ WTo lo a P b t ty g w { M with H := M.H.set t M.rnow } { f with ep := M.now } d w')
theorem qg5 (h : WSt g w lo a P M b t ty f d) (ht : t < M.H.length) : Calls prog 238 #[.pointer (some ⟨a, 0, none⟩), .int .i64 (t : Int), .pointer (some ⟨b, 2, none⟩)] w (qrd lo a P M b t ty f d (qe9 f.call d.gr) M.H[t] g w) := by
 have H := hid h; have c2 := h.box.c 2 rfl; have c3 := h.box.c 3 rfl; have c4 := h.box.c 4 rfl; have c5 := h.box.c 5 rfl; have c6 := h.box.c 6 rfl; have hl := h.box.lt; have TG := hid (qwi f.call d.gr w h.callIn); generalize hgi : qe9 f.call d.gr = gi at *; clear hgi h; go_enter func238, ntmps238; go_wp2_with fail; refine TG.out.mono ?_; rintro e w1 ⟨rfl, hb1⟩; have h1 := H.out.below hb1; have H1 := hid h1; have HB := hid hb1; have c24 := h1.box.c 24 rfl; have c7 := h1.box.c 7 rfl; have f24 := h1.box.fr 24; have f7 := h1.box.fr 7; have hl1 := h1.box.lt; clear c2 c3 c4 c5 c6 h1 hb1 hl; by_cases h0 : gi = 0
 · subst h0
   by_cases hh : M.H[t] = 0
   · have TR := hid (qeb H1.out.ar)
     have TE := hid (qtf w1 0 P.rp P.rc M.rnow M.H H1.out.ar.rd.1 t ht hh); obtain ⟨g2, A2, E2⟩ := H1.out.ar.rdSet ht M.rnow; have HH := hid hh; have H2 := hid (H1.out.ext A2 E2); have HE2 := hid E2; clear A2 E2 hh c24 c7 f24 f7; go_wp2_with fail; refine TR.out.mono ?_; rintro e w2 ⟨rfl, rfl⟩; go_wp2_with fail; refine TE.out.mono ?_; rintro e w3 ⟨rfl, rfl⟩; generalize hw3 : World.setCell w2 _ _ = w3 at *; have TC := hid (qcr H2.out.ar); have TN := hid (qkh H2.out.ar.clk.1); have c8 := H2.out.box.c 8 rfl; have f8 := H2.out.box.fr 8; have hl3 := H2.out.box.lt; clear hw3; go_wp2_with fail; refine TC.out.mono ?_; rintro e w4 ⟨rfl, rfl⟩; go_wp2_with fail; refine TN.out.mono ?_; rintro e w5 ⟨rfl, rfl⟩; go_wp2_with fail; go_ret; exact .inr (.inr ⟨rfl, HH.out, rfl, g2, H2.out.set 8 (.int .u64 (M.now : Int)) { f with ep := M.now } rfl ⟨rfl, rfl, rfl, rfl⟩, ((ExtB.below HB.out).trans (.of_ext HE2.out)).trans (ExtB.set _ _)⟩)
   · have TR := hid (qeb H1.out.ar)
     have TE := hid (qwp w1 0 P.rp P.rc M.rnow M.H H1.out.ar.rd.1 t ht hh); have HH := hid hh; clear hh; go_wp2_with fail; refine TR.out.mono ?_; rintro e w2 ⟨rfl, rfl⟩; go_wp2_with fail; refine TE.out.mono ?_; rintro e w3 ⟨rfl, rfl⟩; go_wp2_with fail; go_ret; exact .inr (.inl ⟨rfl, HH.out, rfl, g, (H1.out.set 24 (.int .i64 7) { f with code := 7 } rfl ⟨rfl, rfl, rfl, rfl⟩).set 7 (.int .i64 7) { f with code := 7, phase := 7 } rfl ⟨rfl, rfl, rfl, rfl⟩, ((ExtB.below HB.out).trans (ExtB.set _ _)).trans (ExtB.set _ _)⟩)
 · have hb0 : (gi == 0) = false := by rw [beq_eq_false_iff_ne]; exact h0
   have hb1 : (gi != 0) = true := by rw [bne_iff_ne]; exact h0
   have H0 := hid h0; clear h0; go_wp2_with fail; go_ret; exact .inl ⟨H0.out, rfl, g, (H1.out.set 24 (.int .i64 gi) { f with code := gi } rfl ⟨rfl, rfl, rfl, rfl⟩).set 7 (.int .i64 7) { f with code := gi, phase := 7 } rfl ⟨rfl, rfl, rfl, rfl⟩, ((ExtB.below HB.out).trans (ExtB.set _ _)).trans (ExtB.set _ _)⟩
def qxl (a : Nat) (P : qag) (M : qa4) (c : Int) (g : Own8) (w : World) (r : Ending) (w' : World) : Prop :=
 (qa9 c = 0 ∧ r = .returned (.tuple #[.int .i64 0, .int .i64 c, .int .i64 1]) ∧ w' = w) ∨
 (¬ qa9 c = 0 ∧ r = .returned (.tuple #[.int .i64 0, .int .i64 c, .int .i64 4]) ∧ w' = w ∧ ∀ j (hj : j < M.S.length), ¬ M.S[j].cls = -1) ∨
 (∃ (i k : Nat) (hi : i < M.S.length), ¬ qa9 c = 0 ∧ quz M.S c i k true ∧ r = .returned (.tuple #[.int .i64 ((2 + i * 8 + k * qa9 c : Nat) : Int), .int .i64 c, .int .i64 0]) ∧ ATo g w w' a P { M with S := M.S.set i (M.S[i].put c k) })
theorem qtb (h : qa6 g w a P M) (n : Int) : Calls prog 245 #[.pointer (some ⟨a, 0, none⟩), .int .i64 n] w (qxl a P M (qbh n) g w) := by
 have H := hid h; have TP := hid (qi1 h); have TT := hid (qvd w 0 P.pp P.sc M.S h.pool.1 (qbh n)); clear h; generalize hc : qbh n = c at *; go_enter func245, ntmps245; go_wp2_with fail; refine (qf5 n w).mono ?_; rintro e w1 ⟨rfl, rfl⟩; rw [hc]; clear hc; go_wp2_with fail; refine TP.out.mono ?_; rintro e w2 ⟨rfl, rfl⟩; go_wp2_with fail; refine TT.out.mono ?_; rintro e w3 (⟨h1, rfl, rfl⟩ | ⟨h1, rfl, rfl, h2⟩ | ⟨i, k, hi, h0, h1, rfl, h2, h3, h4⟩)
 · have H1 := hid h1
   clear h1; go_wp2_with fail; go_ret3; exact .inl ⟨H1.out, rfl, rfl⟩
 · have H1 := hid h1
   have H2 := hid h2; clear h1 h2; go_wp2_with fail; go_ret3; exact .inr (.inl ⟨H1.out, rfl, rfl, H2.out⟩)
 · have H0 := hid h0
   have H1 := hid h1; have H2 := hid (H.out.setPool (qcx.of2 h3 (fun j _ hj _ => h4 j hj) H.out.pool.2.2 H.out.pool.2.2) h2); clear h0 h1 h2 h3 h4; go_wp2_with fail; go_ret3; exact .inr (.inr ⟨i, k, hi, H0.out, H1.out, rfl, H2.out⟩)
end
def qcz (c : qa7) : Int := if c.kind = 2 then (c.key.size : Int) + (c.val.size : Int) else if c.kind = 4 then (c.val.size : Int) else 0
def qm1 (c : qa7) : ByteArray := if c.kind = 2 then c.key ++ c.val else if c.kind = 4 then c.val else ByteArray.empty
theorem qhs (c : qa7) (w : World) (hk : c.key.size ≤ 1000000) (hv : c.val.size ≤ 1000000) : Calls prog 246 #[.agg #[.int .i64 c.kind, .string c.key, .string c.val, .string c.tx, .slice c.gA c.gn c.gc]] w fun e w' => e = .returned (.int .i64 (qcz c)) ∧ Below w.heap.size w w' := by
 obtain ⟨kind, key, val, to', gA, gn, gc⟩ := c; simp only at hk hv ⊢; have i1 : IntKind.i64.wrap ((key.size : Int) + (val.size : Int)) = (key.size : Int) + (val.size : Int) := Go.IntWalk.i64_in _ (by omega); go_enter func246, ntmps246; go_wp2; all_goals (go_ret; exact ⟨qs1 (by simp_all [qcz]), (by repeat (first | exact Below.refl _ _ | assumption | refine Below.drew ?_ | refine qa1 ?_ _ | refine Below.alloc ?_ (by first | omega | simp <;> omega) _ | refine Below.setCell ?_ (by first | omega | simp <;> omega) _))⟩)
theorem qqk (c : qa7) (w : World) (hk : c.key.size ≤ 1000000) (hv : c.val.size ≤ 1000000) : Calls prog 302 #[.agg #[.int .i64 c.kind, .string c.key, .string c.val, .string c.tx, .slice c.gA c.gn c.gc]] w fun e w' => e = .returned (.string (qm1 c)) ∧ Below w.heap.size w w' := by
 obtain ⟨kind, key, val, to', gA, gn, gc⟩ := c; simp only at hk hv ⊢; have i1 : key.size + val.size ≤ 9223372036854775807 := by omega
 go_enter func302, ntmps302; go_wp2; all_goals (go_ret; exact ⟨qyq (by first | (simp_all [qm1]; done) | (simp_all [qm1]; rfl)), (by repeat (first | exact Below.refl _ _ | assumption | refine Below.drew ?_ | refine qa1 ?_ _ | refine Below.alloc ?_ (by first | omega | simp <;> omega) _ | refine Below.setCell ?_ (by first | omega | simp <;> omega) _))⟩)
end
end Go.Proofs.YtecikkjbnkhhkaaGreat
