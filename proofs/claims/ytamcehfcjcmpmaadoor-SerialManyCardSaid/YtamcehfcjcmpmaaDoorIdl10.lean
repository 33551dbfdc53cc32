/- ideal.Apply of a call that is no group. -/
import Derived.Test.YtamcehfcjcmpmaaDoorIdl9
namespace Go.Proofs.YtamcehfcjcmpmaaDoor
open Go.RowKit

theorem heap_alloc_if (w : World) (o : Obj) (k : Nat) : (w.alloc o).heap[k]? = if k = w.heap.size then some o else w.heap[k]? := by
  show (w.heap.push o)[k]? = _
  rw [Array.getElem?_push]
def Call0.val' (c : Call0) : Value := .agg #[.int .i64 c.kind, .string c.key, .string c.val, .string c.to, .slice c.gA c.gn c.gc]
def ans0 (code : Int) : Ans := ⟨code, false, ByteArray.empty, [], []⟩
theorem Own.raise {α : Type} {enc : α → List Value} {e : TypeId} {k : Nat} {w : World} {lo lo' p : Nat} {A : Option Addr} {c : Nat} {l : List α} {F : Nat → Prop} (h : Own enc e k w lo A c l) (hl : Lies F p A c) (hF : ∀ j, F j → lo' ≤ j) : Own enc e k w lo' A c l := by
  obtain ⟨h1, h2, h3⟩ := h
  refine ⟨h1, h2, ?_⟩
  rcases h3 with h3 | ⟨b, off, cur, hA, hlo, hr⟩
  · exact .inl h3
  · rcases hl with hl | hl
    · exact .inl hl
    · exact .inr ⟨b, off, cur, hA, hF _ (hl b off hA).1, hr⟩
/-- a store and an answer, as results -/
def GivesAp (s : Shelf) (a : Ans) (w : World) (e : Ending) (w' : World) : Prop :=
  ∃ PA pc QA qc RA rc HA hc, e = .returned (.tuple #[.agg #[.slice PA s.pairs.length pc, .slice QA s.queue.length qc], .agg #[.int .i64 a.code, .bool a.found, .string a.value, .slice RA a.pairs.length rc, .slice HA a.hits.length hc, .int .u64 0]]) ∧
    ShOwn w' w.heap.size PA pc QA qc s ∧ Own Pair.enc 53 2 w' w.heap.size RA rc a.pairs ∧ Own bit 4 1 w' w.heap.size HA hc a.hits ∧ Below w.heap.size w w'

set_option maxHeartbeats 4000000 in
set_option maxRecDepth 100000 in
theorem apply_plain (s : Shelf) (PA : Option Addr) (pc : Nat) (QA : Option Addr) (qc : Nat) (c : Call0) (g : List Call0) (w : World) (h : ShIn w w.heap.size PA pc QA qc s) (hp : s.pairs.length ≤ 100000) (hq : s.queue.length ≤ 100000) (hc : CallIn w w.heap.size c g)
    (hgood : goodI c g = 0) (h7 : c.kind ≠ 7) (i f : Nat) (hf : Instr.findNow (.int .i64) (.int .i64 c.kind) tableD.toList 0 = some (some (i, .func (.func f) #[] #[]))) (s' : Shelf) (a' : Ans) (hfc : ∀ args W, (callFunc f args).run Tryd.prog W = .ok (.enter f args) W)
    (hdo : ∀ (K : Nat → Prop) (W : World) (p q : Nat), SA K W p q s (ans0 0) → (∀ j, W.heap.size ≤ j → K j) → Calls Tryd.prog f #[.pointer (some ⟨p, 0, none⟩), .agg #[.int .i64 c.kind, .string c.key, .string c.val, .string c.to, .slice c.gA c.gn c.gc], .pointer (some ⟨q, 0, none⟩)] W (GivesDo K p q s' a' W)) :
    Calls Tryd.prog 14 #[.agg #[.slice PA s.pairs.length pc, .slice QA s.queue.length qc], .agg #[.int .i64 c.kind, .string c.key, .string c.val, .string c.to, .slice c.gA c.gn c.gc]] w (GivesAp s' a' w) := by
  have H := hid h
  have HC := hid hc
  have HG := hid hgood
  have HD := hid hdo
  have HF := hid hf
  have HP := hid hp
  have HQ := hid hq
  clear h hc hgood hdo hf hp hq
  go_enter Tryd.func14, Tryd.ntmps14
  go_wp2_with fail
  refine (copied_any s PA pc QA qc _ ?_ (by have := HP.out; omega) (by have := HQ.out; omega)).mono ?_
  · exact (H.out.below (by repeat (first | exact Below.refl _ _ | assumption | refine Below.drew ?_ | refine below_drewN ?_ _ | refine Below.alloc ?_ (by first | omega | (simp; done) | (simp; omega)) _ | refine Below.setCell ?_ (by first | omega | (simp; done) | (simp; omega)) _))).more (by first | omega | (simp; done) | (simp; omega))
  rintro e w1 ⟨A1, c1, A2, c2, rfl, hown, hb1⟩
  obtain ⟨n, hn⟩ : ∃ n, n = w.heap.size := ⟨_, rfl⟩
  have hs1 : n + 4 ≤ w1.heap.size := by have := hb1.size; simp at this; omega
  have bw1 : Below w.heap.size w w1 := Below.trans (by repeat (first | exact Below.refl _ _ | assumption | refine Below.drew ?_ | refine below_drewN ?_ _ | refine Below.alloc ?_ (by first | omega | (simp; done) | (simp; omega)) _ | refine Below.setCell ?_ (by first | omega | (simp; done) | (simp; omega)) _)) (hb1.mono (show w.heap.size ≤ _ from (by first | omega | (simp; done) | (simp; omega))))
  have R1 : w1.heap[n + 1]? = some (.cells #[.int .i64 c.kind, .string c.key, .string c.val, .string c.to, .slice c.gA c.gn c.gc] 33 (0, 0)) := by
    rw [hb1.block _ (by simp; omega), heap_alloc_if, if_neg (by simp; omega), heap_alloc_if, if_neg (by simp; omega), heap_alloc_if, if_pos (by simp; omega)]
  have R2 : w1.heap[n + 2]? = some (.cells #[.slice none 0 0, .slice none 0 0] 25 (0, 0)) := by
    rw [hb1.block _ (by simp; omega), heap_alloc_if, if_neg (by simp; omega), heap_alloc_if, if_pos (by simp; omega)]
  have R3 : w1.heap[n + 3]? = some (.cells #[.int .i64 0, .bool false, .string ByteArray.empty, .slice none 0 0, .slice none 0 0, .int .u64 0] 40 (0, 0)) := by
    rw [hb1.block _ (by simp; omega), heap_alloc_if, if_pos (by simp; omega)]; rfl
  have HO := hid (show ShOwn w1 (n + 4) A1 c1 A2 c2 s from by rw [hn]; simpa using hown)
  clear hown hb1
  obtain ⟨p, hp⟩ : ∃ p, p = w1.heap.size := ⟨_, rfl⟩
  have k0 : w1.cell? ⟨w.heap.size + 1, 0, none⟩ = some (.int .i64 c.kind) := by rw [← hn, cell_of_row w1 _ 0 _ _ _ R1]; rfl
  have k1 : w1.cell? ⟨w.heap.size + 1, 1, none⟩ = some (.string c.key) := by rw [← hn, cell_of_row w1 _ 1 _ _ _ R1]; rfl
  have k2 : w1.cell? ⟨w.heap.size + 1, 2, none⟩ = some (.string c.val) := by rw [← hn, cell_of_row w1 _ 2 _ _ _ R1]; rfl
  have k3 : w1.cell? ⟨w.heap.size + 1, 3, none⟩ = some (.string c.to) := by rw [← hn, cell_of_row w1 _ 3 _ _ _ R1]; rfl
  have k4 : w1.cell? ⟨w.heap.size + 1, 4, none⟩ = some (.slice c.gA c.gn c.gc) := by rw [← hn, cell_of_row w1 _ 4 _ _ _ R1]; rfl
  have hlt : w.heap.size + 1 < w1.heap.size := by omega
  have HN := hid hn
  have HPn := hid hp
  clear hn hp
  go_wp2_with fail
  refine (good_any c g _ ?_).mono ?_
  · exact (HC.out.below (bw1.trans (((Below.refl _ w1).alloc (Nat.le_refl _) _).mono bw1.size))).more (by have := bw1.size; simp; omega)
  rintro e w2 ⟨rfl, hb2⟩
  rw [HG.out]
  have hs2 : w1.heap.size + 1 ≤ w2.heap.size := by have := hb2.size; simpa using this
  have bw2 : Below w1.heap.size w1 w2 := Below.trans (by repeat (first | exact Below.refl _ _ | assumption | refine Below.drew ?_ | refine below_drewN ?_ _ | refine Below.alloc ?_ (by first | omega | (simp; done) | (simp; omega)) _ | refine Below.setCell ?_ (by first | omega | (simp; done) | (simp; omega)) _)) (hb2.mono (show w1.heap.size ≤ _ from (by first | omega | (simp; done) | (simp; omega))))
  have P2 : w2.heap[w1.heap.size]? = some (.cells #[.slice A1 s.pairs.length c1, .slice A2 s.queue.length c2] 25 (0, 0)) := by
    rw [hb2.block _ (by simp), heap_alloc_if, if_pos rfl]
  clear hb2
  go_wp2_with fail
  refine (doings_any _).mono ?_
  rintro e w3 ⟨b, rfl, hb, hmap, hb3⟩
  have hs3 : w2.heap.size + 1 ≤ w3.heap.size := by have := hb3.size; simpa using this
  have hbs : w2.heap.size + 1 ≤ b := by simpa using hb
  have bw3 : Below w2.heap.size w2 w3 := Below.trans (by repeat (first | exact Below.refl _ _ | assumption | refine Below.drew ?_ | refine below_drewN ?_ _ | refine Below.alloc ?_ (by first | omega | (simp; done) | (simp; omega)) _ | refine Below.setCell ?_ (by first | omega | (simp; done) | (simp; omega)) _)) (hb3.mono (show w2.heap.size ≤ _ from (by first | omega | (simp; done) | (simp; omega))))
  have P3 : w3.heap[w1.heap.size]? = some (.cells #[.slice A1 s.pairs.length c1, .slice A2 s.queue.length c2] 25 (0, 0)) := (bw3.block _ (by omega)).trans P2
  have Q3 : w3.heap[w2.heap.size]? = some (.cells #[.int .i64 0, .bool false, .string ByteArray.empty, .slice none 0 0, .slice none 0 0, .int .u64 0] 40 (0, 0)) := by
    rw [hb3.block _ (by simp), heap_alloc_if, if_pos rfl]; rfl
  have bw13 : Below w1.heap.size w1 w3 := bw2.trans (bw3.mono (by omega))
  have k0' := (bw13.cell (p := ⟨w.heap.size + 1, 0, none⟩) hlt).trans k0
  have k1' := (bw13.cell (p := ⟨w.heap.size + 1, 1, none⟩) hlt).trans k1
  have k2' := (bw13.cell (p := ⟨w.heap.size + 1, 2, none⟩) hlt).trans k2
  have k3' := (bw13.cell (p := ⟨w.heap.size + 1, 3, none⟩) hlt).trans k3
  have k4' := (bw13.cell (p := ⟨w.heap.size + 1, 4, none⟩) hlt).trans k4
  have HM := hid hmap
  clear hb3 k0 k1 k2 k3 k4 hb hmap
  go_wp2_with (refine wpList_look _ rfl _ _ _ rfl _ _ b 7 tableD Tryd.underlying66 Tryd.underlying3 rfl c.kind rfl HM.out i _ HF.out ?_)
  have hsa : SA (fun j => n + 4 ≤ j ∧ j ≠ b) w3 w1.heap.size w2.heap.size s (ans0 0) := by
    refine ⟨fun j => n + 4 ≤ j ∧ j < w2.heap.size, fun j => j = w2.heap.size, ⟨A1, c1, A2, c2, P3, ?_, ?_, ?_, ?_⟩, ⟨none, 0, none, 0, Q3, Own.none_, Own.none_, rfl, .inl rfl, .inl rfl, by simp⟩, fun j hj hj' => by omega, fun j hj => by omega, fun j hj => by omega⟩
    · exact ⟨((HO.out.pairs.below bw13).lower (Nat.zero_le _)), ((HO.out.queue.below bw13).lower (Nat.zero_le _)), HO.out.apart⟩
    · omega
    · rcases HO.out.pairs.lt with h0 | ⟨b', o', hA, h1, h2⟩
      · exact .inl h0
      · exact .inr fun b2 o2 hA2 => by rw [hA] at hA2; cases hA2; exact ⟨⟨h1, by omega⟩, by omega⟩
    · rcases HO.out.queue.lt with h0 | ⟨b', o', hA, h1, h2⟩
      · exact .inl h0
      · exact .inr fun b2 o2 hA2 => by rw [hA] at hA2; cases hA2; exact ⟨⟨h1, by omega⟩, by omega⟩
  have hbl : b < w3.heap.size := lt_of_heap HM.out
  refine (HD.out _ w3 _ _ hsa fun j hj => ⟨by omega, by omega⟩).mono ?_
  rintro e w4 ⟨rfl, hsa4, hon⟩
  have hnn := HN.out
  have R24 : w4.heap[w.heap.size + 1 + 1]? = some (.cells #[.slice none 0 0, .slice none 0 0] 25 (0, 0)) := by
    rw [show w.heap.size + 1 + 1 = n + 2 by omega, hon.block _ (by omega) (by omega), bw13.block _ (by omega)]; exact R2
  have R34 : w4.heap[w.heap.size + 1 + 1 + 1]? = some (.cells #[.int .i64 0, .bool false, .string ByteArray.empty, .slice none 0 0, .slice none 0 0, .int .u64 0] 40 (0, 0)) := by
    rw [show w.heap.size + 1 + 1 + 1 = n + 3 by omega, hon.block _ (by omega) (by omega), bw13.block _ (by omega)]; exact R3
  obtain ⟨F, G, ⟨P', pc', Q', qc', p1, p2, p3, p4, p5⟩, ⟨RA, rc, HA, hc, q1, q2, q3, q4, q5, q6, q7⟩, hFG, hFK, hGK⟩ := hsa4
  have f20 := frozen_of_row w4 (w.heap.size + 1 + 1) 0 _ _ R24
  have f21 := frozen_of_row w4 (w.heap.size + 1 + 1) 1 _ _ R24
  have f30 := frozen_of_row w4 (w.heap.size + 1 + 1 + 1) 0 _ _ R34
  have f31 := frozen_of_row w4 (w.heap.size + 1 + 1 + 1) 1 _ _ R34
  have f32 := frozen_of_row w4 (w.heap.size + 1 + 1 + 1) 2 _ _ R34
  have f33 := frozen_of_row w4 (w.heap.size + 1 + 1 + 1) 3 _ _ R34
  have f34 := frozen_of_row w4 (w.heap.size + 1 + 1 + 1) 4 _ _ R34
  have f35 := frozen_of_row w4 (w.heap.size + 1 + 1 + 1) 5 _ _ R34
  have v20 := cell_of_row w4 (w.heap.size + 1 + 1) 0 _ _ _ R24
  have v21 := cell_of_row w4 (w.heap.size + 1 + 1) 1 _ _ _ R24
  have v30 := cell_of_row w4 (w.heap.size + 1 + 1 + 1) 0 _ _ _ R34
  have v31 := cell_of_row w4 (w.heap.size + 1 + 1 + 1) 1 _ _ _ R34
  have v32 := cell_of_row w4 (w.heap.size + 1 + 1 + 1) 2 _ _ _ R34
  have v33 := cell_of_row w4 (w.heap.size + 1 + 1 + 1) 3 _ _ _ R34
  have v34 := cell_of_row w4 (w.heap.size + 1 + 1 + 1) 4 _ _ _ R34
  have v35 := cell_of_row w4 (w.heap.size + 1 + 1 + 1) 5 _ _ _ R34
  have x0 := cell_of_row w4 w1.heap.size 0 _ _ _ p1
  have x1 := cell_of_row w4 w1.heap.size 1 _ _ _ p1
  have y0 := cell_of_row w4 w2.heap.size 0 _ _ _ q1
  have y1 := cell_of_row w4 w2.heap.size 1 _ _ _ q1
  have y2 := cell_of_row w4 w2.heap.size 2 _ _ _ q1
  have y3 := cell_of_row w4 w2.heap.size 3 _ _ _ q1
  have y4 := cell_of_row w4 w2.heap.size 4 _ _ _ q1
  have y5 := cell_of_row w4 w2.heap.size 5 _ _ _ q1
  simp only [List.getElem?_toArray, List.getElem?_cons_zero, List.getElem?_cons_succ] at v20 v21 v30 v31 v32 v33 v34 v35 x0 x1 y0 y1 y2 y3 y4 y5
  have n1 : ¬ (w.heap.size + 1 + 1 = w1.heap.size) := by omega
  have n2 : ¬ (w.heap.size + 1 + 1 = w2.heap.size) := by omega
  have n3 : ¬ (w.heap.size + 1 + 1 + 1 = w1.heap.size) := by omega
  have n4 : ¬ (w.heap.size + 1 + 1 + 1 = w2.heap.size) := by omega
  clear hnn
  go_wp2_with fail
  go_region
  go_wp2_with fail
  have hnn := HN.out
  have hb4 : Below w.heap.size w w4 := (bw1.trans (bw13.mono (by omega))).trans (hon.below (lo := w.heap.size) (fun j hj => by omega) (by omega))
  refine bodyPost_ret (v := .tuple #[.agg #[.slice P' s'.pairs.length pc', .slice Q' s'.queue.length qc'], .agg #[.int .i64 a'.code, .bool a'.found, .string a'.value, .slice RA a'.pairs.length rc, .slice HA a'.hits.length hc, .int .u64 0]])
    (by simp [results, Tryd.results14, go_sem, v20, v21, v30, v31, v32, v33, v34, v35]) rfl ⟨P', pc', Q', qc', RA, rc, HA, hc, rfl, ⟨?_, ?_, p2.apart⟩, ?_, ?_, ?_⟩
  · exact Own.lower (Own.drew (((((((((p2.pairs.raise p4 (lo' := n + 4) fun j hj => (hFK j hj).1).setCell (by show w.heap.size + 1 + 1 < n + 4; omega) _).setCell (by show w.heap.size + 1 + 1 < n + 4; omega) _).setCell (by show w.heap.size + 1 + 1 + 1 < n + 4; omega) _).setCell (by show w.heap.size + 1 + 1 + 1 < n + 4; omega) _).setCell (by show w.heap.size + 1 + 1 + 1 < n + 4; omega) _).setCell (by show w.heap.size + 1 + 1 + 1 < n + 4; omega) _).setCell (by show w.heap.size + 1 + 1 + 1 < n + 4; omega) _).setCell (by show w.heap.size + 1 + 1 + 1 < n + 4; omega) _)) (by omega)
  · exact Own.lower (Own.drew (((((((((p2.queue.raise p5 (lo' := n + 4) fun j hj => (hFK j hj).1).setCell (by show w.heap.size + 1 + 1 < n + 4; omega) _).setCell (by show w.heap.size + 1 + 1 < n + 4; omega) _).setCell (by show w.heap.size + 1 + 1 + 1 < n + 4; omega) _).setCell (by show w.heap.size + 1 + 1 + 1 < n + 4; omega) _).setCell (by show w.heap.size + 1 + 1 + 1 < n + 4; omega) _).setCell (by show w.heap.size + 1 + 1 + 1 < n + 4; omega) _).setCell (by show w.heap.size + 1 + 1 + 1 < n + 4; omega) _).setCell (by show w.heap.size + 1 + 1 + 1 < n + 4; omega) _)) (by omega)
  · exact Own.lower (Own.drew (((((((((q2.raise q5 (lo' := n + 4) fun j hj => (hGK j hj).1).setCell (by show w.heap.size + 1 + 1 < n + 4; omega) _).setCell (by show w.heap.size + 1 + 1 < n + 4; omega) _).setCell (by show w.heap.size + 1 + 1 + 1 < n + 4; omega) _).setCell (by show w.heap.size + 1 + 1 + 1 < n + 4; omega) _).setCell (by show w.heap.size + 1 + 1 + 1 < n + 4; omega) _).setCell (by show w.heap.size + 1 + 1 + 1 < n + 4; omega) _).setCell (by show w.heap.size + 1 + 1 + 1 < n + 4; omega) _).setCell (by show w.heap.size + 1 + 1 + 1 < n + 4; omega) _)) (by omega)
  · exact Own.lower (Own.drew (((((((((q3.raise q6 (lo' := n + 4) fun j hj => (hGK j hj).1).setCell (by show w.heap.size + 1 + 1 < n + 4; omega) _).setCell (by show w.heap.size + 1 + 1 < n + 4; omega) _).setCell (by show w.heap.size + 1 + 1 + 1 < n + 4; omega) _).setCell (by show w.heap.size + 1 + 1 + 1 < n + 4; omega) _).setCell (by show w.heap.size + 1 + 1 + 1 < n + 4; omega) _).setCell (by show w.heap.size + 1 + 1 + 1 < n + 4; omega) _).setCell (by show w.heap.size + 1 + 1 + 1 < n + 4; omega) _).setCell (by show w.heap.size + 1 + 1 + 1 < n + 4; omega) _)) (by omega)
  · exact ((((((((hb4.setCell (by show w.heap.size ≤ w.heap.size + 1 + 1; omega) _).setCell (by show w.heap.size ≤ w.heap.size + 1 + 1; omega) _).setCell (by show w.heap.size ≤ w.heap.size + 1 + 1 + 1; omega) _).setCell (by show w.heap.size ≤ w.heap.size + 1 + 1 + 1; omega) _).setCell (by show w.heap.size ≤ w.heap.size + 1 + 1 + 1; omega) _).setCell (by show w.heap.size ≤ w.heap.size + 1 + 1 + 1; omega) _).setCell (by show w.heap.size ≤ w.heap.size + 1 + 1 + 1; omega) _).setCell (by show w.heap.size ≤ w.heap.size + 1 + 1 + 1; omega) _).drew
theorem Arr.txt1 {w : World} {B : Nat} {A : Option Addr} {l : List ByteArray} (h : Arr txt 1 w B A l) {i : Nat} (hi : i < l.length) : ∃ b off, A = some ⟨b, off, none⟩ ∧ b < B ∧ w.cell? ⟨b, off + i, none⟩ = some (.string l[i]) := by
  rcases h with h | ⟨b, off, hA, hB, hc⟩
  · subst h; simp at hi
  · exact ⟨b, off, hA, hB, by simpa using hc i hi 0 _ rfl⟩
end Go.Proofs.YtamcehfcjcmpmaaDoor
