/- The table of doings, and the doings one by one. -/
import Derived.Test.YtamcehfcjcmpmaaGreatDoorIdl6
import Derived.Test.YtamcehfcjcmpmaaGreatDoorInsPair
import Derived.Test.YtamcehfcjcmpmaaGreatDoorMem
import Derived.MapKept
import Derived.Carry
import Derived.OwnWalk
/- A store in a variable of the program's own, and what ideal.set makes of it. -/
namespace Go.Proofs.YtamcehfcjcmpmaaGreatDoor
open Go.RowKit

/-- nothing but blocks of F has changed -/
structure Only (F : Nat → Prop) (w w' : World) : Prop where
  os : w'.os = w.os
  tape : w'.tape = w.tape
  output : w'.output = w.output
  size : w.heap.size ≤ w'.heap.size
  block : ∀ j, j < w.heap.size → ¬ F j → w'.heap[j]? = w.heap[j]?
theorem Only.refl (F : Nat → Prop) (w : World) : Only F w w := ⟨rfl, rfl, rfl, Nat.le_refl _, fun _ _ _ => rfl⟩
theorem Only.trans {F : Nat → Prop} {a b c : World} (h : Only F a b) (k : Only F b c) : Only F a c :=
  ⟨k.os.trans h.os, k.tape.trans h.tape, k.output.trans h.output, Nat.le_trans h.size k.size, fun j hj hn => (k.block j (Nat.lt_of_lt_of_le hj h.size) hn).trans (h.block j hj hn)⟩
theorem Only.of_below {F : Nat → Prop} {w w' : World} (h : Below w.heap.size w w') : Only F w w' := ⟨h.os, h.tape, h.output, h.size, fun j hj _ => h.block j hj⟩
theorem Only.below {F : Nat → Prop} {lo : Nat} {w w' : World} (h : Only F w w') (hF : ∀ j, F j → lo ≤ j) (hlo : lo ≤ w.heap.size) : Below lo w w' :=
  ⟨h.os, h.tape, h.output, h.size, fun j hj => h.block j (Nat.lt_of_lt_of_le hj hlo) fun hf => absurd (hF j hf) (by omega)⟩
theorem Only.grown {F : Nat → Prop} {w w' : World} {row : Option Nat} (h : w.grownBy w' row) (hF : ∀ j, row = some j → F j) : Only F w w' :=
  ⟨h.os, h.tape, h.output, h.size, fun j hj hn => h.block j hj fun hr => hn (hF j hr.symm)⟩
theorem Only.mono {F G : Nat → Prop} {w w' : World} (h : Only F w w') (hFG : ∀ j, F j → G j) : Only G w w' := ⟨h.os, h.tape, h.output, h.size, fun j hj hn => h.block j hj fun hf => hn (hFG j hf)⟩
theorem Only.setCell {F : Nat → Prop} {w w' : World} (h : Only F w w') (p : Addr) (v : Value) (hp : F p.block) : Only F w (w'.setCell p v) :=
  h.trans ⟨rfl, rfl, rfl, by simp, fun j hj hn => Below.heap_setCell _ _ _ _ fun hb => hn (hb ▸ hp)⟩
theorem Own.keep2 {α : Type} {enc : α → List Value} {e : TypeId} {k : Nat} {w w' : World} {lo : Nat} {A : Option Addr} {c : Nat} {l : List α} (h : Own enc e k w lo A c l)
    (hk : c = 0 ∨ ∀ b off, A = some ⟨b, off, none⟩ → b < w.heap.size → w'.heap[b]? = w.heap[b]?) : Own enc e k w' lo A c l := by
  rcases hk with hk | hk
  · exact ⟨h.1, h.2.1, .inl hk⟩
  · exact h.keep fun b off hA _ hlt => hk b off hA hlt
theorem grown_setCell' (w : World) (a : Addr) (u : Value) : w.grownBy (w.setCell a u) (some a.block) := ⟨rfl, rfl, rfl, by simp, fun i _ hn => Below.heap_setCell _ _ _ _ fun h => hn (h ▸ rfl)⟩
/-- where a row may lie -/
def Lies (F : Nat → Prop) (p : Nat) (A : Option Addr) (c : Nat) : Prop := c = 0 ∨ ∀ b o, A = some ⟨b, o, none⟩ → F b ∧ b ≠ p
def Store (F : Nat → Prop) (w : World) (p : Nat) (s : Shelf) : Prop :=
  ∃ PA pc QA qc, w.heap[p]? = some (.cells #[.slice PA s.pairs.length pc, .slice QA s.queue.length qc] 25 (0, 0)) ∧ ShOwn w 0 PA pc QA qc s ∧ F p ∧ Lies F p PA pc ∧ Lies F p QA qc
theorem Store.only {F G : Nat → Prop} {w w' : World} {p : Nat} {s : Shelf} (h : Store F w p s) (ho : Only G w w') (hG : ∀ j, F j → ¬ G j) : Store F w' p s := by
  obtain ⟨PA, pc, QA, qc, h1, h2, h3, h4, h5⟩ := h
  have hp : p < w.heap.size := by
    rcases Nat.lt_or_ge p w.heap.size with h | h
    · exact h
    · rw [Array.getElem?_eq_none h] at h1; cases h1
  refine ⟨PA, pc, QA, qc, (ho.block p hp (hG p h3)).trans h1, ⟨?_, ?_, h2.apart⟩, h3, h4, h5⟩
  · rcases h4 with h4 | h4
    · subst h4
      exact ⟨h2.pairs.1, h2.pairs.2.1, .inl rfl⟩
    · exact h2.pairs.keep fun b o hA _ hlt => ho.block b hlt (hG b (h4 b o hA).1)
  · rcases h5 with h5 | h5
    · subst h5
      exact ⟨h2.queue.1, h2.queue.2.1, .inl rfl⟩
    · exact h2.queue.keep fun b o hA _ hlt => ho.block b hlt (hG b (h5 b o hA).1)
theorem Own.row {α : Type} {enc : α → List Value} {e : TypeId} {k : Nat} {w : World} {lo : Nat} {A : Option Addr} {c : Nat} {l : List α} {F : Nat → Prop} {p : Nat} (h : Own enc e k w lo A c l) (hl : Lies F p A c) :
    ∀ j, rowOf A c = some j → F j ∧ j ≠ p := by
  intro j hj
  unfold rowOf at hj
  split at hj
  · cases hj
  · rcases h.2.2 with h0 | ⟨b, off, cur, rfl, _⟩
    · exact absurd h0 ‹_›
    · rcases hl with hl | hl
      · exact absurd hl ‹_›
      · simp at hj
        subst hj
        exact hl b off rfl
/-- a pair's value overwritten -/
theorem Own.setVal {w : World} {lo : Nat} {b off c : Nat} {l : List Pair} (h : Own Pair.enc 54 2 w lo (some ⟨b, off, none⟩) c l) {i : Nat} (hi : i < l.length) (v : ByteArray) :
    Own Pair.enc 54 2 (w.setCell ⟨b, off + i * 2 + 1, none⟩ (.string v)) lo (some ⟨b, off, none⟩) c (l.modify i fun p => ⟨p.key, v⟩) := by
  obtain ⟨h1, h2, h3⟩ := h
  rcases h3 with h3 | ⟨b', off', cur, hA, hlo, hh, hs, hc⟩
  · omega
  cases hA
  refine ⟨by rw [List.length_modify]; exact h1, h2, .inr ⟨b, off, cur.setIfInBounds (off + i * 2 + 1) (.string v), rfl, hlo, heap_setCell_same w b _ cur _ _ hh, by simpa using hs, ?_⟩⟩
  intro j u hu
  have hlt := (List.getElem?_eq_some_iff.1 hu).1
  rw [flat_length Pair.enc_len, List.length_modify] at hlt
  obtain ⟨q, r, rfl, hq, hr⟩ : ∃ q r, j = q * 2 + r ∧ q < l.length ∧ r < 2 := ⟨j / 2, j % 2, by omega, by omega, by omega⟩
  rw [flat_get Pair.enc_len _ q (by rw [List.length_modify]; exact hq) r hr, List.getElem_modify] at hu
  have hold := fun u' => hc (q * 2 + r) u'
  rw [flat_get Pair.enc_len l q hq r hr] at hold
  by_cases hqi : i = q
  · subst hqi
    rw [if_pos rfl] at hu
    rcases (by omega : r = 0 ∨ r = 1) with rfl | rfl
    · rw [Array.getElem?_setIfInBounds_ne (by omega)]
      exact hold u hu
    · simp only [Pair.enc, List.getElem?_cons_succ, List.getElem?_cons_zero, Option.some.injEq] at hu
      subst hu
      rw [Nat.add_assoc off, Array.getElem?_setIfInBounds_self_of_lt (by omega)]
  · rw [if_neg hqi] at hu
    rw [Array.getElem?_setIfInBounds_ne (by omega)]
    exact hold u hu

/-- a store whose pairs are set anew -/
theorem Store.putPairs {F : Nat → Prop} {p : Nat} {s : Shelf} {w2 W w3 : World} {PA : Option Addr} {pc : Nat} {QA : Option Addr} {qc : Nat} {A' : Option Addr} {c' n : Nat} {l' : List Pair}
    (h1 : w2.heap[p]? = some (.cells #[.slice PA s.pairs.length pc, .slice QA s.queue.length qc] 25 (0, 0))) (h2 : ShOwn w2 0 PA pc QA qc s) (h3 : F p) (h4 : Lies F p PA pc) (h5 : Lies F p QA qc)
    (hF : ∀ j, w2.heap.size ≤ j → F j) (hW : Below w2.heap.size w2 W) (hgr : W.grownBy w3 (rowOf PA pc)) (hown : Own Pair.enc 54 2 w3 0 A' c' l') (hloc : A' = PA ∧ c' = pc ∨ ∃ g, A' = some ⟨g, 0, none⟩ ∧ W.heap.size ≤ g) (hn : n = l'.length) :
    Store F (w3.setCell ⟨p, 0, none⟩ (.slice A' n c')) p ⟨l', s.queue⟩ ∧ Only F w2 (w3.setCell ⟨p, 0, none⟩ (.slice A' n c')) := by
  subst hn
  have hp : p < w2.heap.size := by
    rcases Nat.lt_or_ge p w2.heap.size with h | h
    · exact h
    · rw [Array.getElem?_eq_none h] at h1; cases h1
  have hWs := hW.size
  have hrow := h2.pairs.row h4
  have hon : Only F w2 w3 := (Only.of_below hW).trans (Only.grown hgr fun j hj => (hrow j hj).1)
  have hp3 : w3.heap[p]? = some (.cells #[.slice PA s.pairs.length pc, .slice QA s.queue.length qc] 25 (0, 0)) :=
    ((hgr.block p (by omega) fun hr => (hrow p hr.symm).2 rfl).trans (hW.block p hp)).trans h1
  have hlies : Lies F p A' c' := by
    rcases hloc with ⟨rfl, rfl⟩ | ⟨g, rfl, hg⟩
    · exact h4
    · exact .inr fun b o hA => by cases hA; exact ⟨hF _ (by omega), by omega⟩
  refine ⟨⟨A', c', QA, qc, ?_, ⟨?_, ?_, ?_⟩, h3, hlies, h5⟩, hon.setCell _ _ h3⟩
  · rw [heap_setCell_same w3 p 0 _ _ _ hp3]; rfl
  · exact hown.keep2 (hlies.imp id fun h b o hA _ => Below.heap_setCell _ _ _ _ (h b o hA).2)
  · refine Own.keep2 (h2.queue.keep2 (w' := w3) ?_) (h5.imp id fun h b o hA _ => Below.heap_setCell _ _ _ _ (h b o hA).2)
    by_cases hq0 : qc = 0
    · exact .inl hq0
    · refine .inr fun b o hA hlt => (hgr.block b (by omega) fun hr => ?_).trans (hW.block b hlt)
      unfold rowOf at hr
      split at hr
      · cases hr
      · rcases h2.pairs.2.2 with h0 | ⟨b', off', _, hPA, _⟩
        · exact absurd h0 ‹_›
        · subst hPA
          simp at hr
          rcases h2.apart b' off' b o rfl hA with h | h | h
          · exact absurd h ‹_›
          · exact hq0 h
          · exact h hr.symm
  · rcases hloc with ⟨rfl, rfl⟩ | ⟨g, rfl, hg⟩
    · exact h2.apart
    · intro b o b' o' hA hB
      cases hA
      rcases h2.queue.lt with h0 | ⟨b2, o2, hQ, _, hlt⟩
      · exact .inr (.inl h0)
      · rw [hQ] at hB
        cases hB
        exact .inr (.inr (by omega))

def setP (l : List Pair) (key val : ByteArray) : List Pair := if l.findIdx (eqK key) < l.length then l.modify (l.findIdx (eqK key)) (fun p => ⟨p.key, val⟩) else ins l (l.findIdx (gtK key)) ⟨key, val⟩
def GivesSet (F : Nat → Prop) (p : Nat) (s : Shelf) (key val : ByteArray) (w : World) (e : Ending) (w' : World) : Prop :=
  e = .returned (.bool (decide (s.pairs.findIdx (eqK key) < s.pairs.length))) ∧ Store F w' p ⟨setP s.pairs key val, s.queue⟩ ∧ Only F w w'

set_option maxHeartbeats 2000000 in
theorem set_hit (F : Nat → Prop) (p : Nat) (s : Shelf) (key val : ByteArray) (w : World) (h : Store F w p s) (hk : s.pairs.findIdx (eqK key) < s.pairs.length) :
    Calls Tryz.prog 64 #[.pointer (some ⟨p, 0, none⟩), .string key, .string val] w (GivesSet F p s key val w) := by
  obtain ⟨PA, pc, QA, qc, h1, h2, h3, h4, h5⟩ := h
  have hp : p < w.heap.size := by
    rcases Nat.lt_or_ge p w.heap.size with h | h
    · exact h
    · rw [Array.getElem?_eq_none h] at h1; cases h1
  have c0 : w.cell? ⟨p, 0, none⟩ = some (.slice PA s.pairs.length pc) := by rw [cell_of_row w p 0 _ _ _ h1]; rfl
  have c1 : w.cell? ⟨p, 1, none⟩ = some (.slice QA s.queue.length qc) := by rw [cell_of_row w p 1 _ _ _ h1]; rfl
  have harr := h2.pairs.arr Pair.enc_len
  have HA := hid harr
  have hlen := h2.pairs.len
  have hmax := h2.pairs.max
  have hf : fi (eqK key) s.pairs = ((s.pairs.findIdx (eqK key) : Nat) : Int) := by rw [fi, if_pos hk]
  have HF := hid hf
  have H2 := hid h2
  have H1 := hid h1
  have H4 := hid h4
  have H5 := hid h5
  clear harr hf h2 h1 h4 h5
  go_enter Tryz.func64, Tryz.ntmps64
  go_wp2_with fail
  go_region_with (go_at_call 78; refine (place_any s PA pc QA _ qc key _ ?_ hlen hmax).mono ?_; (exact (HA.out.below (by repeat (first | exact Below.refl _ _ | assumption | refine Below.drew ?_ | refine below_drewN ?_ _ | refine Below.alloc ?_ (by first | omega | (simp; done) | (simp; omega)) _ | refine Below.setCell ?_ (by first | omega | (simp; done) | (simp; omega)) _))).more (by first | omega | (simp; done) | (simp; omega))); rintro e w1 ⟨rfl, hb⟩; rw [HF.out]; have hbw : Below w.heap.size w w1 := Below.trans (by repeat (first | exact Below.refl _ _ | assumption | refine Below.drew ?_ | refine below_drewN ?_ _ | refine Below.alloc ?_ (by first | omega | (simp; done) | (simp; omega)) _ | refine Below.setCell ?_ (by first | omega | (simp; done) | (simp; omega)) _)) (hb.mono (show w.heap.size ≤ _ from (by first | omega | (simp; done) | (simp; omega)))); have e0 := (hbw.cell (p := ⟨p, 0, none⟩) hp).trans c0; have e1 := (hbw.cell (p := ⟨p, 1, none⟩) hp).trans c1; obtain ⟨b, off, rfl, hB, k0, k1⟩ := (HA.out.below hbw).pair hk; have hfz := (H2.out.pairs.below hbw).frozen rfl (by omega) (off + s.pairs.findIdx (eqK key) * 2 + 1))
  all_goals go_wp2
  all_goals go_ret
  all_goals
    refine ⟨ret_bool (by simpa using hk), ?_, (Only.of_below hbw).setCell _ _ ?_⟩
    · have hL : F b ∧ b ≠ p := by
        rcases H4.out with h | h
        · omega
        · exact h b off rfl
      refine ⟨_, pc, QA, qc, ?_, ⟨by rw [setP, if_pos hk]; exact (H2.out.pairs.below hbw).setVal hk val, (H2.out.queue.below hbw).keep2 ?_, H2.out.apart⟩, h3, H4.out, H5.out⟩
      · rw [Below.heap_setCell _ _ _ _ (Ne.symm hL.2), hbw.block p hp, H1.out, setP, if_pos hk]
        simp only [List.length_modify]
      · by_cases hq0 : qc = 0
        · exact .inl hq0
        · refine .inr fun b' o' hA hlt => Below.heap_setCell _ _ _ _ fun hbb => ?_
          rcases H2.out.apart b off b' o' rfl hA with h | h | h
          · omega
          · exact hq0 h
          · exact h hbb.symm
    · rcases H4.out with h | h
      · omega
      · exact (h b off rfl).1

set_option maxHeartbeats 4000000 in
set_option maxRecDepth 100000 in
theorem set_miss (F : Nat → Prop) (p : Nat) (s : Shelf) (key val : ByteArray) (w : World) (h : Store F w p s) (hF : ∀ j, w.heap.size ≤ j → F j) (hk : ¬ s.pairs.findIdx (eqK key) < s.pairs.length) (hl : s.pairs.length ≤ 100000) :
    Calls Tryz.prog 64 #[.pointer (some ⟨p, 0, none⟩), .string key, .string val] w (GivesSet F p s key val w) := by
  obtain ⟨PA, pc, QA, qc, h1, h2, h3, h4, h5⟩ := h
  have hp : p < w.heap.size := by
    rcases Nat.lt_or_ge p w.heap.size with h | h
    · exact h
    · rw [Array.getElem?_eq_none h] at h1; cases h1
  have c0 : w.cell? ⟨p, 0, none⟩ = some (.slice PA s.pairs.length pc) := by rw [cell_of_row w p 0 _ _ _ h1]; rfl
  have c1 : w.cell? ⟨p, 1, none⟩ = some (.slice QA s.queue.length qc) := by rw [cell_of_row w p 1 _ _ _ h1]; rfl
  have harr := h2.pairs.arr Pair.enc_len
  have HA := hid harr
  have hlen := h2.pairs.len
  have hmax := h2.pairs.max
  have hf : fi (eqK key) s.pairs = -1 := by rw [fi, if_neg hk]
  have HF := hid hf
  obtain ⟨g, hg⟩ : ∃ g, g = s.pairs.findIdx (gtK key) := ⟨_, rfl⟩
  have hgl : g ≤ s.pairs.length := by rw [hg]; exact List.findIdx_le_length
  have hgf : fi (gtK key) s.pairs = if g < s.pairs.length then (g : Int) else -1 := by rw [fi, hg]
  have HG := hid hgf
  have HGD := hid hg
  have H2 := hid h2
  have H1 := hid h1
  have H4 := hid h4
  have H5 := hid h5
  have HK := hid hk
  have HFr := hid hF
  have HL := hid hl
  clear hl harr hf h2 h1 h4 h5 hgf hg hk hF
  obtain ⟨r, HIF, hr⟩ : ∃ r : Int, (if g < s.pairs.length then (g : Int) else -1) = r ∧ (r = g ∧ g < s.pairs.length ∨ r = -1 ∧ g = s.pairs.length) := by
    split
    · exact ⟨_, rfl, .inl ⟨rfl, ‹_›⟩⟩
    · exact ⟨_, rfl, .inr ⟨rfl, by omega⟩⟩
  have HIF' := hid HIF
  clear HIF
  rcases hr with ⟨rfl, hgt⟩ | ⟨rfl, hgt⟩
  case' inr => subst hgt
  all_goals
    go_enter Tryz.func64, Tryz.ntmps64
    go_wp2_with fail
    go_region_with (go_at_call 78; refine (place_any s PA pc QA _ qc key _ ?_ hlen hmax).mono ?_; (exact (HA.out.below (by repeat (first | exact Below.refl _ _ | assumption | refine Below.drew ?_ | refine below_drewN ?_ _ | refine Below.alloc ?_ (by first | omega | (simp; done) | (simp; omega)) _ | refine Below.setCell ?_ (by first | omega | (simp; done) | (simp; omega)) _))).more (by first | omega | (simp; done) | (simp; omega))); rintro e w1 ⟨rfl, hb⟩; rw [HF.out]; have hbw : Below w.heap.size w w1 := Below.trans (by repeat (first | exact Below.refl _ _ | assumption | refine Below.drew ?_ | refine below_drewN ?_ _ | refine Below.alloc ?_ (by first | omega | (simp; done) | (simp; omega)) _ | refine Below.setCell ?_ (by first | omega | (simp; done) | (simp; omega)) _)) (hb.mono (show w.heap.size ≤ _ from (by first | omega | (simp; done) | (simp; omega)))); have hs1 : w.heap.size + 1 ≤ w1.heap.size := (by have := hb.size; simp at this; omega); have hkc := (hb.cell (p := ⟨w.heap.size, 0, none⟩) (by simp)).trans (show _ = some (Value.string key) from (by simp [go_sem])); have e0 := (hbw.cell (p := ⟨p, 0, none⟩) hp).trans c0; have e1 := (hbw.cell (p := ⟨p, 1, none⟩) hp).trans c1)
    all_goals
      go_wp2_with fail
      refine (set1_idx s.pairs PA pc key w.heap.size _ ?_ hlen hmax ?_ ?_).mono ?_
      · exact (HA.out.below hbw).more (by first | omega | (simp; done) | (simp; omega))
      · omega
      · exact hkc
      rintro e w2 ⟨rfl, hb2⟩
      rw [HG.out, HIF'.out]
      have hbw2 : Below w.heap.size w w2 := hbw.trans (hb2.mono (by omega))
      have hs2 : w.heap.size + 1 ≤ w2.heap.size := (by have := hb2.size; omega)
      have hkc2 := (hb2.cell (p := ⟨w.heap.size, 0, none⟩) (show w.heap.size < _ by omega)).trans hkc
      have e02 := (hbw2.cell (p := ⟨p, 0, none⟩) hp).trans c0
      clear hkc e0 e1 hb
      have hpr2 : w2.heap[p]? = some (.cells #[.slice PA s.pairs.length pc, .slice QA s.queue.length qc] 25 (0, 0)) := (hbw2.block p hp).trans H1.out
      have HPR := hid hpr2
      have HO2 := hid (H2.out.pairs.below hbw2)
      clear hpr2
      have hpw2 : p < w2.heap.size := by omega
      have hkw2 : w.heap.size < w2.heap.size := by omega
      go_wp2_with fail
      go_region_with (go_at_call 81; refine (ins_anyPair s.pairs PA pc 0 w2.heap.size _ ⟨key, val⟩ _ ?_ ?_ (Nat.zero_le _) HL.out hgl ?_).mono ?_; (exact HO2.out.below (by repeat (first | exact Below.refl _ _ | assumption | refine Below.drew ?_ | refine below_drewN ?_ _ | refine Below.alloc ?_ (by first | omega | (simp; done) | (simp; omega)) _ | refine Below.setCell ?_ (by first | omega | (simp; done) | (simp; omega)) _))); (exact Array.getElem?_push_size); (rcases HO2.out.lt with h0 | ⟨b, off, hA, _, hlt⟩; exact .inl h0; exact .inr fun b' o' hA' hbb => by rw [hA] at hA'; cases hA'; omega); rintro e w3 ⟨A', c', rfl, hown, hgr, hloc⟩; have hp3 : w3.heap[p]? = some (.cells #[.slice PA s.pairs.length pc, .slice QA s.queue.length qc] 25 (0, 0)) := ((hgr.block p (by simp; omega) fun hr => ((HO2.out.row H4.out p hr.symm).2 rfl)).trans (Below.heap_alloc _ _ _ (show p < w2.heap.size by omega))).trans HPR.out; have e30 : w3.cell? ⟨p, 0, none⟩ = some (.slice PA s.pairs.length pc) := (by rw [cell_of_row w3 p 0 _ _ _ hp3]; rfl); have f30 := frozen_of_row w3 p 0 _ _ hp3)
    all_goals
      go_wp2
      go_ret
      obtain ⟨r1, r2⟩ := Store.putPairs HPR.out ⟨HO2.out, H2.out.queue.below hbw2, H2.out.apart⟩ h3 H4.out H5.out (fun j hj => HFr.out j (by omega)) (by repeat (first | exact Below.refl _ _ | assumption | refine Below.drew ?_ | refine below_drewN ?_ _ | refine Below.alloc ?_ (by first | omega | (simp; done) | (simp; omega)) _ | refine Below.setCell ?_ (by first | omega | (simp; done) | (simp; omega)) _)) hgr hown hloc (ins_length _ _ _ hgl).symm
      refine ⟨ret_bool (by simpa using HK.out), ?_, (Only.of_below hbw2).trans r2⟩
      rw [setP, if_neg HK.out, ← HGD.out]
      exact r1
theorem set_any (F : Nat → Prop) (p : Nat) (s : Shelf) (key val : ByteArray) (w : World) (h : Store F w p s) (hF : ∀ j, w.heap.size ≤ j → F j) (hl : s.pairs.length ≤ 100000) :
    Calls Tryz.prog 64 #[.pointer (some ⟨p, 0, none⟩), .string key, .string val] w (GivesSet F p s key val w) := by
  by_cases hk : s.pairs.findIdx (eqK key) < s.pairs.length
  · exact set_hit F p s key val w h hk
  · exact set_miss F p s key val w h hF hk hl
end Go.Proofs.YtamcehfcjcmpmaaGreatDoor
/- Maps keyed by an int, made by the call: made, written, looked up, at the operation. No program is named. -/
namespace Go.Proofs.YtamcehfcjcmpmaaGreatDoor
open Go.RowKit

section
variable {P : Program} {mty kt et r clock : Nat} {es : Array MapEntry} {n : Int} {v : Value} {w : World}
theorem grown_set {o o' : Obj} (hb : w.heap[r]? = some o) : w.grownBy { w with heap := w.heap.setIfInBounds r o' } (some r) :=
  ⟨rfl, rfl, rfl, by simp, fun i _ hne => (MapKept.heap_set hb).2 i fun h => hne (by rw [h])⟩
theorem run_map_new (hm : P.underlying mty = some (.map kt et)) (hd : P.underlying kt = some (.int .i64)) (hb : w.heap[r]? = some (.map es clock)) (hf : Instr.findNow (.int .i64) (.int .i64 n) es.toList 0 = some none) :
    (Instr.mapUpdate mty (.map (some r)) (.int .i64 n) v).run P w = .ok () { w with heap := w.heap.setIfInBounds r (.map (es.push ⟨.int .i64 n, v, clock⟩) (clock + 1)) } := by
  simp [Instr.mapUpdate, run_underlying hm, MapKept.run_getObj_map hb, MapKept.run_checkKey hd (show MapKept.IsKey (.int .i64) (.int .i64 n) from rfl), MapKept.run_findKey hd hf, MapKept.run_setObj_map _ hb, Result.andThen]
theorem run_map_look (hm : P.underlying mty = some (.map kt et)) (hd : P.underlying kt = some (.int .i64)) (hb : w.heap[r]? = some (.map es clock)) {i : Nat} (hf : Instr.findNow (.int .i64) (.int .i64 n) es.toList 0 = some (some (i, v))) :
    (Instr.lookup mty (.map (some r)) (.int .i64 n) false).run P w = .ok v w := by
  simp [Instr.lookup, run_underlying hm, MapKept.run_getObj_map hb, MapKept.run_checkKey hd (show MapKept.IsKey (.int .i64) (.int .i64 n) from rfl), MapKept.run_findKey hd hf, Result.andThen]
end
theorem wpList_makeMap {P : Program} (w : World) {ops : Array Oper} {rest : List Oper} {o : Oper} {a : Act} {Q : Exit → Act → World → Prop} (hg : o.guard = none) (t : TypeId) (hop : o.op = Op.makeMap t none)
    (h : wpList P ops Q rest (a.put o.dst (.map (some w.heap.size))) (w.alloc (.map #[] 0))) : wpList P ops Q (o :: rest) a w := by
  refine wpList_plain hg fun K' hK' => ?_
  unfold Oper.wp
  simp [execOp, hop, run_makeMap, Result.andThen]
  exact hK' _ _ h
theorem wpList_insert_new {P : Program} (w : World) {ops : Array Oper} {rest : List Oper} {o : Oper} {a : Act} {Q : Exit → Act → World → Prop} (hg : o.guard = none) (m x v : Operand) (t : TypeId) (hop : o.op = Op.insert t m x v)
    (k e r clock : Nat) (es : Array MapEntry) (ht : P.underlying t = some (.map k e)) (hd : P.underlying k = some (.int .i64)) (hm : a.eval m = .map (some r)) (n : Int) (u : Value) (hx : a.eval x = .int .i64 n) (hv : a.eval v = u)
    (hb : w.heap[r]? = some (.map es clock)) (hf : Instr.findNow (.int .i64) (.int .i64 n) es.toList 0 = some none)
    (h : ∀ w', w'.heap[r]? = some (.map (es.push ⟨.int .i64 n, u, clock⟩) (clock + 1)) → w.grownBy w' (some r) → wpList P ops Q rest (a.put o.dst undef) w') : wpList P ops Q (o :: rest) a w := by
  refine wpList_plain hg fun K' hK' => ?_
  unfold Oper.wp
  simp [execOp, hop, hm, hx, hv, run_map_new ht hd hb hf, Result.andThen]
  exact hK' _ _ (h _ (MapKept.heap_set hb).1 (grown_set hb))
theorem wpList_look {P : Program} (w : World) {ops : Array Oper} {rest : List Oper} {o : Oper} {a : Act} {Q : Exit → Act → World → Prop} (hg : o.guard = none) (m x : Operand) (t : TypeId) (hop : o.op = Op.lookup t m x false)
    (k e r clock : Nat) (es : Array MapEntry) (ht : P.underlying t = some (.map k e)) (hd : P.underlying k = some (.int .i64)) (hm : a.eval m = .map (some r)) (n : Int) (hx : a.eval x = .int .i64 n)
    (hb : w.heap[r]? = some (.map es clock)) (i : Nat) (u : Value) (hf : Instr.findNow (.int .i64) (.int .i64 n) es.toList 0 = some (some (i, u)))
    (h : wpList P ops Q rest (a.put o.dst u) w) : wpList P ops Q (o :: rest) a w := by
  refine wpList_plain hg fun K' hK' => ?_
  unfold Oper.wp
  simp [execOp, hop, hm, hx, run_map_look ht hd hb hf, Result.andThen]
  exact hK' _ _ h
end Go.Proofs.YtamcehfcjcmpmaaGreatDoor
namespace Go.Proofs.YtamcehfcjcmpmaaGreatDoor
open Go.RowKit

def tableD : Array MapEntry := #[⟨.int .i64 1, .func (.func 61) #[] #[], 0⟩, ⟨.int .i64 2, .func (.func 63) #[] #[], 1⟩, ⟨.int .i64 3, .func (.func 65) #[] #[], 2⟩, ⟨.int .i64 4, .func (.func 67) #[] #[], 3⟩,
  ⟨.int .i64 5, .func (.func 68) #[] #[], 4⟩, ⟨.int .i64 6, .func (.func 70) #[] #[], 5⟩, ⟨.int .i64 8, .func (.func 71) #[] #[], 6⟩]
set_option maxHeartbeats 2000000 in
theorem doings_any (w : World) : Calls Tryz.prog 50 #[] w fun e w' => ∃ b, e = .returned (.map (some b)) ∧ w.heap.size ≤ b ∧ w'.heap[b]? = some (.map tableD 7) ∧ Below w.heap.size w w' := by
  have h0 : (w.alloc (.map #[] 0)).heap[w.heap.size]? = some (.map #[] 0) := (MapKept.heap_alloc w _).1
  go_enter Tryz.func50, Tryz.ntmps50
  go_wp2_with (refine wpList_makeMap _ rfl _ rfl ?_; refine wpList_insert_new _ rfl _ _ _ _ rfl 3 _ _ _ _ Tryz.underlying95 Tryz.underlying3 rfl _ _ rfl rfl h0 rfl ?_; intro w1 h1 g1; refine wpList_insert_new _ rfl _ _ _ _ rfl 3 _ _ _ _ Tryz.underlying95 Tryz.underlying3 rfl _ _ rfl rfl h1 rfl ?_; intro w2 h2 g2; refine wpList_insert_new _ rfl _ _ _ _ rfl 3 _ _ _ _ Tryz.underlying95 Tryz.underlying3 rfl _ _ rfl rfl h2 rfl ?_; intro w3 h3 g3; refine wpList_insert_new _ rfl _ _ _ _ rfl 3 _ _ _ _ Tryz.underlying95 Tryz.underlying3 rfl _ _ rfl rfl h3 rfl ?_; intro w4 h4 g4; refine wpList_insert_new _ rfl _ _ _ _ rfl 3 _ _ _ _ Tryz.underlying95 Tryz.underlying3 rfl _ _ rfl rfl h4 rfl ?_; intro w5 h5 g5; refine wpList_insert_new _ rfl _ _ _ _ rfl 3 _ _ _ _ Tryz.underlying95 Tryz.underlying3 rfl _ _ rfl rfl h5 rfl ?_; intro w6 h6 g6; refine wpList_insert_new _ rfl _ _ _ _ rfl 3 _ _ _ _ Tryz.underlying95 Tryz.underlying3 rfl _ _ rfl rfl h6 rfl ?_; intro w7 h7 g7)
  go_ret
  refine ⟨_, rfl, Nat.le_refl _, h7, ?_⟩
  have s1 := g1.size
  have s2 := g2.size
  have s3 := g3.size
  have s4 := g4.size
  have s5 := g5.size
  have s6 := g6.size
  rw [World.size_alloc] at s1
  exact (((((((((Below.refl _ w).alloc (Nat.le_refl _) _).grown g1 (by simp) (by simp)).grown g2 (by omega) (by simp)).grown g3 (by omega) (by simp)).grown g4 (by omega) (by simp)).grown g5 (by omega) (by simp)).grown g6 (by omega) (by simp)).grown g7 (by omega) (by simp))

/-- where each kind's doing stands -/
theorem tableD_at {n : Int} {i f : Nat} (h : (n, i, f) ∈ [(1, 0, 61), (2, 1, 63), (3, 2, 65), (4, 3, 67), (5, 4, 68), (6, 5, 70), (8, 6, 71)]) :
    Instr.findNow (.int .i64) (.int .i64 n) tableD.toList 0 = some (some (i, .func (.func f) #[] #[])) := by
  simp only [List.mem_cons, Prod.mk.injEq, List.not_mem_nil, or_false] at h
  rcases h with ⟨rfl, rfl, rfl⟩ | ⟨rfl, rfl, rfl⟩ | ⟨rfl, rfl, rfl⟩ | ⟨rfl, rfl, rfl⟩ | ⟨rfl, rfl, rfl⟩ | ⟨rfl, rfl, rfl⟩ | ⟨rfl, rfl, rfl⟩ <;> rfl
end Go.Proofs.YtamcehfcjcmpmaaGreatDoor
