/- ideal.Begin of a call with a group. -/
import Derived.Test.YthpegmeebhkhbaaBegin
namespace Go.Proofs.Ythpegmeebhkhbaa
open Go.RowKit

theorem Own.setGrp {w : World} {lo : Nat} {b off c : Nat} {l : List Call0} (h : Own Call0.enc 50 5 w lo (some ⟨b, off, none⟩) c l) {i : Nat} (hi : i < l.length) (A' : Option Addr) (n' c' : Nat) :
    Own Call0.enc 50 5 (w.setCell ⟨b, off + i * 5 + 4, none⟩ (.slice A' n' c')) lo (some ⟨b, off, none⟩) c (l.modify i fun x => ⟨x.kind, x.key, x.val, x.to, A', n', c'⟩) := by
  obtain ⟨h1, h2, h3⟩ := h
  rcases h3 with h3 | ⟨b', off', cur, hA, hlo, hh, hs, hc⟩
  · omega
  cases hA
  refine ⟨by rw [List.length_modify]; exact h1, h2, .inr ⟨b, off, cur.setIfInBounds (off + i * 5 + 4) (.slice A' n' c'), rfl, hlo, heap_setCell_same w b _ cur _ _ hh, by simpa using hs, ?_⟩⟩
  intro j u hu
  have hlt := (List.getElem?_eq_some_iff.1 hu).1
  rw [flat_length Call0.enc_len, List.length_modify] at hlt
  obtain ⟨q, r, rfl, hq, hr⟩ : ∃ q r, j = q * 5 + r ∧ q < l.length ∧ r < 5 := ⟨j / 5, j % 5, by omega, by omega, by omega⟩
  rw [flat_get Call0.enc_len _ q (by rw [List.length_modify]; exact hq) r hr, List.getElem_modify] at hu
  have hold := fun u' => hc (q * 5 + r) u'
  rw [flat_get Call0.enc_len l q hq r hr] at hold
  by_cases hqi : i = q
  · subst hqi
    rw [if_pos rfl] at hu
    rcases (by omega : r = 0 ∨ r = 1 ∨ r = 2 ∨ r = 3 ∨ r = 4) with rfl | rfl | rfl | rfl | rfl
    · rw [Array.getElem?_setIfInBounds_ne (by omega)]; exact hold u hu
    · rw [Array.getElem?_setIfInBounds_ne (by omega)]; exact hold u hu
    · rw [Array.getElem?_setIfInBounds_ne (by omega)]; exact hold u hu
    · rw [Array.getElem?_setIfInBounds_ne (by omega)]; exact hold u hu
    · simp only [Call0.enc, List.getElem?_cons_succ, List.getElem?_cons_zero, Option.some.injEq] at hu
      subst hu
      rw [Nat.add_assoc off, Array.getElem?_setIfInBounds_self_of_lt (by omega)]
  · rw [if_neg hqi] at hu
    rw [Array.getElem?_setIfInBounds_ne (by omega)]
    exact hold u hu
theorem own_setCells {α : Type} {enc : α → List Value} {e : TypeId} {k lo b : Nat} {A : Option Addr} {c : Nat} {l : List α} (hb : b < lo) : ∀ (vs : List Value) (o : Nat) (w : World), Own enc e k w lo A c l → Own enc e k (w.setCells b o vs) lo A c l
  | [], _, _, h => h
  | v :: r, o, _, h => own_setCells hb r (o + 1) _ (h.setCell (p := ⟨b, o, none⟩) hb v)
/-- groups alike, element by element -/
def Sims (gs g : List Call0) : Prop := gs.length = g.length ∧ ∀ i (h1 : i < gs.length) (h2 : i < g.length), CSim gs[i] g[i] ∧ gs[i].gc ≤ 9223372036854775807
theorem Sims.refl {g : List Call0} (h : ∀ x ∈ g, x.gc ≤ 9223372036854775807) : Sims g g := ⟨rfl, fun _i h1 _ => ⟨CSim.refl _, h _ (List.getElem_mem h1)⟩⟩
theorem Sims.set {gs g : List Call0} (h : Sims gs g) {i : Nat} (hi : i < g.length) (h0 : g[i].gn = 0) (A : Option Addr) {c : Nat} (hc : c ≤ 9223372036854775807) : Sims (gs.modify i fun x => ⟨x.kind, x.key, x.val, x.to, A, 0, c⟩) g := by
  refine ⟨by rw [List.length_modify]; exact h.1, fun j h1 h2 => ?_⟩
  rw [List.length_modify] at h1
  rw [List.getElem_modify]
  have hs := h.2 j h1 h2
  split
  · rename_i e
    subst e
    exact ⟨⟨hs.1.kind, hs.1.key, hs.1.val, hs.1.to', h0.symm⟩, hc⟩
  · exact hs
def GivesFrame (kind : Int) (key val to' : ByteArray) (g : List Call0) (w : World) (e : Ending) (w' : World) : Prop :=
  ∃ A c gs, e = .returned (.agg (frameL kind key val to' A g.length c).toArray) ∧ Arr Call0.enc 5 w' w'.heap.size A gs ∧ g.length ≤ c ∧ c ≤ 9223372036854775807 ∧ Sims gs g ∧ Below w.heap.size w w'
theorem kept6 {W W' : World} {n p : Nat} {u v0 v1 v2 v3 v4 : Value} (hb : Below W.heap.size W W') (hn : n < W.heap.size) (hp : p < W.heap.size)
    (h : W.cell? ⟨n, 4, none⟩ = some u ∧ W.cell? ⟨p, 0, none⟩ = some v0 ∧ W.cell? ⟨p, 1, none⟩ = some v1 ∧ W.cell? ⟨p, 2, none⟩ = some v2 ∧ W.cell? ⟨p, 3, none⟩ = some v3 ∧ W.cell? ⟨p, 4, none⟩ = some v4) :
    W'.cell? ⟨n, 4, none⟩ = some u ∧ W'.cell? ⟨p, 0, none⟩ = some v0 ∧ W'.cell? ⟨p, 1, none⟩ = some v1 ∧ W'.cell? ⟨p, 2, none⟩ = some v2 ∧ W'.cell? ⟨p, 3, none⟩ = some v3 ∧ W'.cell? ⟨p, 4, none⟩ = some v4 := by
  rw [hb.cell (p := ⟨n, 4, none⟩) hn, hb.cell (p := ⟨p, 0, none⟩) hp, hb.cell (p := ⟨p, 1, none⟩) hp, hb.cell (p := ⟨p, 2, none⟩) hp, hb.cell (p := ⟨p, 3, none⟩) hp, hb.cell (p := ⟨p, 4, none⟩) hp]
  exact h
theorem field_frame (kind : Int) (key val to' : ByteArray) (A : Option Addr) (c : Nat) (w : World) : (Instr.field 71 (.agg (frameL kind key val to' A 0 c).toArray) 0).run Try.prog w = .ok (.agg #[.int .i64 kind, .string key, .string val, .string to', .slice A 0 c]) w := by kernel_rfl
theorem field_call (kind : Int) (key val to' : ByteArray) (A : Option Addr) (c : Nat) (w : World) : (Instr.field 50 (.agg #[.int .i64 kind, .string key, .string val, .string to', .slice A 0 c]) 4).run Try.prog w = .ok (.slice A 0 c) w := by kernel_rfl
theorem grp_cell {w : World} {lo b off c i : Nat} {l : List Call0} (h : Own Call0.enc 50 5 w lo (some ⟨b, off, none⟩) c l) (hi : i < l.length) : w.cell? ⟨b, off + i * 5 + 4, none⟩ = some (.slice l[i].gA l[i].gn l[i].gc) := by
  obtain ⟨b', off', hA, _, _, _, _, _, k4⟩ := (h.arr Call0.enc_len).call0 hi
  cases hA
  exact k4
theorem cell_other {W : World} {b j n i : Nat} {x : Value} (h : n ≠ b) : (W.setCell ⟨b, j, none⟩ x).cell? ⟨n, i, none⟩ = W.cell? ⟨n, i, none⟩ := by
  simp [go_sem]
theorem kept6s {W : World} {n p b j : Nat} {x u v0 v1 v2 v3 v4 : Value} 
    (h : W.cell? ⟨n, 4, none⟩ = some u ∧ W.cell? ⟨p, 0, none⟩ = some v0 ∧ W.cell? ⟨p, 1, none⟩ = some v1 ∧ W.cell? ⟨p, 2, none⟩ = some v2 ∧ W.cell? ⟨p, 3, none⟩ = some v3 ∧ W.cell? ⟨p, 4, none⟩ = some v4) (hn : n ≠ b) (hp : p ≠ b) :
    (W.setCell ⟨b, j, none⟩ x).cell? ⟨n, 4, none⟩ = some u ∧ (W.setCell ⟨b, j, none⟩ x).cell? ⟨p, 0, none⟩ = some v0 ∧ (W.setCell ⟨b, j, none⟩ x).cell? ⟨p, 1, none⟩ = some v1 ∧ (W.setCell ⟨b, j, none⟩ x).cell? ⟨p, 2, none⟩ = some v2 ∧ (W.setCell ⟨b, j, none⟩ x).cell? ⟨p, 3, none⟩ = some v3 ∧ (W.setCell ⟨b, j, none⟩ x).cell? ⟨p, 4, none⟩ = some v4 := by
  rw [cell_other hn, cell_other hp, cell_other hp, cell_other hp, cell_other hp, cell_other hp]
  exact h
set_option maxHeartbeats 2000000 in
set_option maxRecDepth 100000 in
theorem begin_grp (kind : Int) (key val to' : ByteArray) (gA : Option Addr) (g : List Call0) (gc : Nat) (w : World) (hA : Arr Call0.enc 5 w w.heap.size gA g) (hc : g.length ≤ gc) (hm : gc ≤ 9223372036854775807) (hl : g.length ≤ 100000) (h0 : 0 < g.length) (hgn : ∀ x ∈ g, x.gn = 0) (hgc : ∀ x ∈ g, x.gc ≤ 9223372036854775807) :
    Calls Try.prog 40 #[.agg #[.int .i64 kind, .string key, .string val, .string to', .slice gA g.length gc]] w (GivesFrame kind key val to' g w) := by
  have HA := hid hA
  have HGN := hid hgn
  have HGC := hid hgc
  clear hA hgn hgc
  go_enter Try.func40, Try.ntmps40
  go_wp2_with fail
  refine (cloneCall g gA gc _ ((HA.out.below (by repeat (first | exact Below.refl _ _ | assumption | refine Below.drew ?_ | refine below_drewN ?_ _ | refine Below.alloc ?_ (by first | omega | (simp; done) | (simp; omega)) _ | refine Below.setCell ?_ (by first | omega | (simp; done) | (simp; omega)) _))).more (by first | omega | (simp; done) | (simp; omega))) hc hm (by omega)).mono ?_
  rintro e w1 ⟨A1, c1, rfl, hown, hb1⟩
  have hz := hb1.size
  simp only [World.size_alloc] at hz
  have hc1 := hown.max
  have hc2 := hown.len
  obtain ⟨b1, o1, rfl, hlo1⟩ : ∃ b1 o1, A1 = some ⟨b1, o1, none⟩ ∧ w.heap.size + 2 ≤ b1 := by
    rcases hown.lt with h | ⟨b, off, hA, hlo, _⟩
    · omega
    · exact ⟨b, off, hA, by simpa using hlo⟩
  have BX : w1.heap[w.heap.size]? = some (.cells #[.int .i64 kind, .string key, .string val, .string to', .slice gA g.length gc] 50 (0, 0)) := (hb1.block _ (by simp; omega)).trans (by rw [heap_alloc_if, if_neg (by simp), heap_alloc_if, if_pos rfl])
  obtain ⟨cur, BY, hcur⟩ : ∃ cur, w1.heap[w.heap.size + 1]? = some (.cells cur 71 (0, 0)) ∧ cur.size = 28 := ⟨_, (hb1.block _ (by simp)).trans (by rw [heap_alloc_if, if_pos (by simp)]), rfl⟩
  have x0 := cell_of_row w1 _ 0 _ _ _ BX
  have x1 := cell_of_row w1 _ 1 _ _ _ BX
  have x2 := cell_of_row w1 _ 2 _ _ _ BX
  have x3 := cell_of_row w1 _ 3 _ _ _ BX
  have x4 := cell_of_row w1 _ 4 _ _ _ BX
  have f4 := frozen_of_row w1 _ 4 _ _ BX
  have hl1 : w.heap.size < w1.heap.size := by omega
  have hl2 : w.heap.size + 1 < w1.heap.size := by omega
  have bw1 : Below w.heap.size w w1 := Below.trans (by repeat (first | exact Below.refl _ _ | assumption | refine Below.drew ?_ | refine below_drewN ?_ _ | refine Below.alloc ?_ (by first | omega | (simp; done) | (simp; omega)) _ | refine Below.setCell ?_ (by first | omega | (simp; done) | (simp; omega)) _)) (hb1.mono (show w.heap.size ≤ _ from (by first | omega | (simp; done) | (simp; omega))))
  have HCU := hid hcur
  have HO1 := hid (hown.lower (lo' := w.heap.size + 2) (by simp))
  clear hown hb1 hcur
  go_wp2_with fail
  obtain ⟨W, hW⟩ : ∃ W, W = w1.setCell ⟨w.heap.size, 4, none⟩ (.slice (some ⟨b1, o1, none⟩) g.length c1) := ⟨_, rfl⟩
  rw [← hW]
  have y0 : W.cell? ⟨w.heap.size, 0, none⟩ = some (.int .i64 kind) := by rw [hW]; simp [go_sem, x0]
  have y1 : W.cell? ⟨w.heap.size, 1, none⟩ = some (.string key) := by rw [hW]; simp [go_sem, x1]
  have y2 : W.cell? ⟨w.heap.size, 2, none⟩ = some (.string val) := by rw [hW]; simp [go_sem, x2]
  have y3 : W.cell? ⟨w.heap.size, 3, none⟩ = some (.string to') := by rw [hW]; simp [go_sem, x3]
  have y4 : W.cell? ⟨w.heap.size, 4, none⟩ = some (.slice (some ⟨b1, o1, none⟩) g.length c1) := by rw [hW]; simp [go_sem, x4]
  have HYS := hid (And.intro y0 (And.intro y1 (And.intro y2 (And.intro y3 y4))))
  have bwW : Below w.heap.size w W := by rw [hW]; exact bw1.setCell (Nat.le_refl _) _
  have BYW : W.heap[w.heap.size + 1]? = some (.cells cur 71 (0, 0)) := by
    rw [hW]
    exact (Below.heap_setCell _ _ _ _ (by show w.heap.size + 1 ≠ w.heap.size; omega)).trans BY
  have HOW := hid (show Own Call0.enc 50 5 W (w.heap.size + 2) (some ⟨b1, o1, none⟩) c1 g by rw [hW]; exact HO1.out.setCell (by show w.heap.size < w.heap.size + 2; omega) _)
  have hWs : w.heap.size + 2 ≤ W.heap.size := by rw [hW]; simp [World.setCell]; omega
  clear hW x0 x1 x2 x3 x4 f4 BX BY bw1 y0 y1 y2 y3 HO1
  have HBYW := hid BYW
  have HB := hid bwW
  clear BYW bwW
  go_loopw [12] (fun vi wr => ∃ (k : Nat) (gs : List Call0), k ≤ g.length ∧ vi = .int .i64 k ∧ Below (w.heap.size + 2) W wr ∧ Own Call0.enc 50 5 wr (w.heap.size + 2) (some ⟨b1, o1, none⟩) c1 gs ∧ Sims gs g) (fun vi _ => g.length - (intOf vi).toNat)
  case atStart => exact ⟨0, g, Nat.zero_le _, rfl, Below.refl _ _, HOW.out, Sims.refl HGC.out⟩
  case round =>
    clear y4
    obtain ⟨k, gs, hkl, rfl, hb, hown, hsim⟩ := hrel
    have HS := hid hsim
    have HO := hid hown
    have HBR := hid hb
    have hbs := hb.size
    have hb1s : b1 < wr.heap.size := by
      rcases hown.lt with h | ⟨b, off, hA, _, hlt⟩
      · omega
      · cases hA; exact hlt
    have y4 := (hb.cell (p := ⟨w.heap.size, 4, none⟩) (by simp)).trans HYS.out.2.2.2.2
    have hl1r : w.heap.size < wr.heap.size := by omega
    clear hb hown hsim
    by_cases hlt : k < g.length
    · have hlt' : k < gs.length := by have := HS.out.1; omega
      have z0 : (0 : Int) ≤ (k : Int) := by omega
      have z1 : (k : Int) < (g.length : Int) := by omega
      obtain ⟨b', off', hA1, hB', k0, k1, k2, k3, k4⟩ := (HO.out.arr Call0.enc_len).call0 hlt'
      cases hA1
      have hgn0 : gs[k].gn = 0 := by rw [(HS.out.2 k hlt' hlt).1.gn]; exact HGN.out _ (List.getElem_mem hlt)
      have hgcm := (HS.out.2 k hlt' hlt).2
      rw [hgn0] at k4
      obtain ⟨X, hX⟩ : ∃ X, X = gs[k] := ⟨_, rfl⟩
      rw [← hX] at k0 k1 k2 k3 k4 hgcm
      have HX := hid hX
      clear hX
      go_upto_region 5 with fail
      obtain ⟨V, hV⟩ : ∃ V, V = wr.alloc (.cells #[.int .i64 X.kind, .string X.key, .string X.val, .string X.to, .slice X.gA 0 X.gc] 50) := ⟨_, rfl⟩
      rw [← hV]
      have bV : Below wr.heap.size wr V := by rw [hV]; exact (by repeat (first | exact Below.refl _ _ | assumption | refine Below.drew ?_ | refine below_drewN ?_ _ | refine Below.alloc ?_ (by first | omega | (simp; done) | (simp; omega)) _ | refine Below.setCell ?_ (by first | omega | (simp; done) | (simp; omega)) _))
      have hVs : V.heap.size = wr.heap.size + 1 := by rw [hV]; simp
      have v4 := (bV.cell (p := ⟨w.heap.size, 4, none⟩) hl1r).trans y4
      have u0 : V.cell? ⟨wr.heap.size, 0, none⟩ = some (.int .i64 X.kind) := by rw [hV]; simp [go_sem]
      have u1 : V.cell? ⟨wr.heap.size, 1, none⟩ = some (.string X.key) := by rw [hV]; simp [go_sem]
      have u2 : V.cell? ⟨wr.heap.size, 2, none⟩ = some (.string X.val) := by rw [hV]; simp [go_sem]
      have u3 : V.cell? ⟨wr.heap.size, 3, none⟩ = some (.string X.to) := by rw [hV]; simp [go_sem]
      have u4 : V.cell? ⟨wr.heap.size, 4, none⟩ = some (.slice X.gA 0 X.gc) := by rw [hV]; simp [go_sem]
      have HALL := hid (And.intro v4 (And.intro u0 (And.intro u1 (And.intro u2 (And.intro u3 u4)))))
      have HOV := hid (HO.out.below bV)
      have HBV := hid (HBR.out.trans (bV.mono (by omega)))
      have hnV : w.heap.size < V.heap.size := by omega
      have hpV : wr.heap.size < V.heap.size := by omega
      have hbV : b1 < V.heap.size := by omega
      have HGM := hid hgcm
      have hnb : w.heap.size ≠ b1 := by omega
      have hpb : wr.heap.size ≠ b1 := by omega
      clear hV bV k0 k1 k2 k3 k4 y4 hgcm
      have hfd := field_frame X.kind X.key X.val X.to
      have hfd2 := field_call X.kind X.key X.val X.to
      go_region_held3 (fun W' => W'.cell? ⟨w.heap.size, 4, none⟩ = some (.slice (some ⟨b1, o1, none⟩) g.length c1) ∧ W'.cell? ⟨wr.heap.size, 0, none⟩ = some (.int .i64 X.kind) ∧ W'.cell? ⟨wr.heap.size, 1, none⟩ = some (.string X.key) ∧ W'.cell? ⟨wr.heap.size, 2, none⟩ = some (.string X.val) ∧ W'.cell? ⟨wr.heap.size, 3, none⟩ = some (.string X.to) ∧ W'.cell? ⟨wr.heap.size, 4, none⟩ = some (.slice X.gA 0 X.gc)) (first | exact kept6s (kept6 (W := V) st2 hnV hpV HALL.out) hnb hpb | exact kept6 (W := V) (by repeat (first | with_reducible exact Below.refl _ _ | with_reducible assumption | with_reducible refine Below.drew ?_ | with_reducible refine below_drewN ?_ _ | with_reducible refine Below.alloc ?_ (by first | omega | (simp; done) | (simp; omega)) _ | with_reducible refine Below.setCell ?_ (by first | omega | (simp; done) | (simp; omega)) _)) hnV hpV HALL.out | go_keep) (first | (go_at_call 40; refine (begin_flat X.kind X.key X.val X.to X.gA X.gc _ HGM.out).mono ?_; rintro e w2 ⟨A2, c2, rfl, hc2m, hb2⟩; have st2 : Below V.heap.size V w2 := (by refine Below.trans ?_ (hb2.mono ?_); exact (by repeat (first | with_reducible exact Below.refl _ _ | with_reducible assumption | with_reducible refine Below.drew ?_ | with_reducible refine below_drewN ?_ _ | with_reducible refine Below.alloc ?_ (by first | omega | (simp; done) | (simp; omega)) _ | with_reducible refine Below.setCell ?_ (by first | omega | (simp; done) | (simp; omega)) _)); (first | exact Nat.le_refl _ | (simp; done))); have hO2 := hid (HOV.out.below st2); have e4 := grp_cell hO2.out hlt'; have f4 := hO2.out.frozen rfl (show 0 < c1 by omega) (o1 + k * 5 + 4)))
      have HSET := hid (hO2.out.setGrp hlt' A2 0 c2)
      have HS2 := hid (HS.out.set hlt (HGN.out _ (List.getElem_mem hlt)) A2 hc2m)
      have HB2 := hid (HBV.out.trans (st2.mono (by omega)))
      go_wp2_with fail
      exact ⟨⟨k + 1, _, by omega, by go_num, HB2.out.setCell (by show w.heap.size + 2 ≤ b1; omega) _, HSET.out, HS2.out⟩, by simp [intOf]; omega⟩
    · have y0 := (HBR.out.cell (p := ⟨w.heap.size, 0, none⟩) (by simp)).trans HYS.out.1
      have y1 := (HBR.out.cell (p := ⟨w.heap.size, 1, none⟩) (by simp)).trans HYS.out.2.1
      have y2 := (HBR.out.cell (p := ⟨w.heap.size, 2, none⟩) (by simp)).trans HYS.out.2.2.1
      have y3 := (HBR.out.cell (p := ⟨w.heap.size, 3, none⟩) (by simp)).trans HYS.out.2.2.2.1
      have HT := hid (there_of_row ((HBR.out.block (w.heap.size + 1) (by omega)).trans HBYW.out) HCU.out)
      have HSf := hid (all_oneCell_toArray (frame_one kind key val to' (some ⟨b1, o1, none⟩) g.length c1))
      have hgl : gs.length = g.length := HS.out.1
      have HGL := hid hgl
      clear hgl
      go_wp2_with (refine wpList_store_mid (by first | rfl | (exfalso; fail)) 71 (.tmp 2) (.tmp 28) (by first | rfl | fail) (w.heap.size + 1) 0 (frameL kind key val to' (some ⟨b1, o1, none⟩) g.length c1).toArray rfl (by rfl) HT.out frame_size HSf.out ?_)
      have hO3 := own_setCells (b := w.heap.size + 1) (by omega) (frameL kind key val to' (some ⟨b1, o1, none⟩) g.length c1) 0 _ HO.out
      refine bodyPost_ret (v := .agg (frameL kind key val to' (some ⟨b1, o1, none⟩) g.length c1).toArray) ?_ rfl ⟨_, c1, gs, rfl, hO3.arr Call0.enc_len, hc2, hc1, HS.out, ?_⟩
      · exact results_cell_mid Try.results40 _ _ (w.heap.size + 1) _ _ rfl (World.rangeAt_setCells_same wr (w.heap.size + 1) 0 (frameL kind key val to' (some ⟨b1, o1, none⟩) g.length c1) HT.out) Try.underlying71 rfl frame_size
      · exact below_setCells' (by omega) _ _ _ (HB.out.trans (HBR.out.mono (by omega)))
theorem begin_any (kind : Int) (key val to' : ByteArray) (gA : Option Addr) (g : List Call0) (gc : Nat) (w : World) (hA : Arr Call0.enc 5 w w.heap.size gA g) (hc : g.length ≤ gc) (hm : gc ≤ 9223372036854775807) (hl : g.length ≤ 100000) (hgn : ∀ x ∈ g, x.gn = 0) (hgc : ∀ x ∈ g, x.gc ≤ 9223372036854775807) :
    Calls Try.prog 40 #[.agg #[.int .i64 kind, .string key, .string val, .string to', .slice gA g.length gc]] w (GivesFrame kind key val to' g w) := by
  cases g with
  | nil => exact (begin_flat kind key val to' gA gc w hm).mono fun _ _ ⟨A, c, h1, h2, h3⟩ => ⟨A, c, [], h1, Arr.nil, Nat.zero_le _, h2, ⟨rfl, fun i h => absurd h (by simp)⟩, h3⟩
  | cons x g => exact begin_grp kind key val to' gA (x :: g) gc w hA hc hm hl (by simp) hgn hgc
end Go.Proofs.Ythpegmeebhkhbaa
