/- Rooms in memory: five lists of blocks, each a slice with a row of its own. -/
import Derived.Test.YtamcehfcjcmpmaaParted
namespace Go.Proofs.Ytamcehfcjcmpmaa
open Go.RowKit

/-- nothing but blocks of F has changed -/
structure Only (F : Nat → Prop) (w w' : World) : Prop where
  os : w'.os = w.os
  tape : w'.tape = w.tape
  output : w'.output = w.output
  size : w.heap.size ≤ w'.heap.size
  block : ∀ j, j < w.heap.size → ¬ F j → w'.heap[j]? = w.heap[j]?
theorem Only.refl (F : Nat → Prop) (w : World) : Only F w w := ⟨rfl, rfl, rfl, Nat.le_refl _, fun _ _ _ => rfl⟩
theorem Only.trans {F : Nat → Prop} {a b c : World} (h : Only F a b) (k : Only F b c) : Only F a c :=
  ⟨k.os.trans h.os, k.tape.trans h.tape, k.output.trans h.output, Nat.le_trans h.size k.size, fun j hj hn => (k.block j (Nat.lt_of_lt_of_le hj h.size) hn).trans (h.block j hj hn)⟩
theorem Only.of_below {F : Nat → Prop} {w w' : World} (h : Below w.heap.size w w') : Only F w w' := ⟨h.os, h.tape, h.output, h.size, fun j hj _ => h.block j hj⟩
theorem Only.below {F : Nat → Prop} {lo : Nat} {w w' : World} (h : Only F w w') (hF : ∀ j, F j → lo ≤ j) (hlo : lo ≤ w.heap.size) : Below lo w w' :=
  ⟨h.os, h.tape, h.output, h.size, fun j hj => h.block j (Nat.lt_of_lt_of_le hj hlo) fun hf => absurd (hF j hf) (by omega)⟩
theorem Only.grown {F : Nat → Prop} {w w' : World} {row : Option Nat} (h : w.grownBy w' row) (hF : ∀ j, row = some j → F j) : Only F w w' :=
  ⟨h.os, h.tape, h.output, h.size, fun j hj hn => h.block j hj fun hr => hn (hF j hr.symm)⟩
theorem Only.mono {F G : Nat → Prop} {w w' : World} (h : Only F w w') (hFG : ∀ j, F j → G j) : Only G w w' := ⟨h.os, h.tape, h.output, h.size, fun j hj hn => h.block j hj fun hf => hn (hFG j hf)⟩
theorem Only.setCell {F : Nat → Prop} {w w' : World} (h : Only F w w') (p : Addr) (v : Value) (hp : F p.block) : Only F w (w'.setCell p v) :=
  h.trans ⟨rfl, rfl, rfl, by simp, fun j hj hn => Below.heap_setCell _ _ _ _ fun hb => hn (hb ▸ hp)⟩
theorem Own.keep2 {α : Type} {enc : α → List Value} {e : TypeId} {k : Nat} {w w' : World} {lo : Nat} {A : Option Addr} {c : Nat} {l : List α} (h : Own enc e k w lo A c l)
    (hk : c = 0 ∨ ∀ b off, A = some ⟨b, off, none⟩ → b < w.heap.size → w'.heap[b]? = w.heap[b]?) : Own enc e k w' lo A c l := by
  rcases hk with hk | hk
  · exact ⟨h.1, h.2.1, .inl hk⟩
  · exact h.keep fun b off hA _ hlt => hk b off hA hlt
theorem grown_setCell' (w : World) (a : Addr) (u : Value) : w.grownBy (w.setCell a u) (some a.block) := ⟨rfl, rfl, rfl, by simp, fun i _ hn => Below.heap_setCell _ _ _ _ fun h => hn (h ▸ rfl)⟩
/-- where a row may lie -/
def Lies (F : Nat → Prop) (p : Nat) (A : Option Addr) (c : Nat) : Prop := c = 0 ∨ ∀ b o, A = some ⟨b, o, none⟩ → F b ∧ b ≠ p
theorem Own.row {α : Type} {enc : α → List Value} {e : TypeId} {k : Nat} {w : World} {lo : Nat} {A : Option Addr} {c : Nat} {l : List α} {F : Nat → Prop} {p : Nat} (h : Own enc e k w lo A c l) (hl : Lies F p A c) :
    ∀ j, rowOf A c = some j → F j ∧ j ≠ p := by
  intro j hj
  unfold rowOf at hj
  split at hj
  · cases hj
  · rcases h.2.2 with h0 | ⟨b, off, cur, rfl, _⟩
    · exact absurd h0 ‹_›
    · rcases hl with hl | hl
      · exact absurd hl ‹_›
      · simp at hj
        subst hj
        exact hl b off rfl

theorem cell_lt {w : World} {p : Addr} {v : Value} (h : w.cell? p = some v) : p.block < w.heap.size := by
  rcases Nat.lt_or_ge p.block w.heap.size with h' | h'
  · exact h'
  · unfold World.cell? at h
    rw [Array.getElem?_eq_none h'] at h
    cases h
theorem cell_same_block {w w' : World} {p : Addr} (h : w'.heap[p.block]? = w.heap[p.block]?) : w'.cell? p = w.cell? p := by unfold World.cell?; rw [h]
theorem frozen_same_block {w w' : World} {p : Addr} (h : w'.heap[p.block]? = w.heap[p.block]?) : w'.frozen? p = w.frozen? p := by unfold World.frozen?; rw [h]

/-- a list of lists, one of them anew -/
def upd (lv : Nat → List Taken) (k : Nat) (l : List Taken) : Nat → List Taken := fun j => if j = k then l else lv j
structure OrdIn (F : Nat → Prop) (w : World) (ob : Nat) (lv : Nat → List Taken) (A : Nat → Option Addr) (c : Nat → Nat) : Prop where
  cell : ∀ i, i < 5 → w.cell? ⟨ob, i, none⟩ = some (.slice (A i) (lv i).length (c i))
  frz : ∀ i, w.frozen? ⟨ob, i, none⟩ = false
  own : ∀ i, i < 5 → Own Taken.enc 29 2 w 0 (A i) (c i) (lv i)
  lies : ∀ i, i < 5 → Lies F ob (A i) (c i)
  apart : ∀ i j, i < 5 → j < 5 → i ≠ j → ∀ b o o', A i = some ⟨b, o, none⟩ → A j = some ⟨b, o', none⟩ → c i = 0 ∨ c j = 0
def Ord (F : Nat → Prop) (w : World) (ob : Nat) (lv : Nat → List Taken) : Prop := F ob ∧ ∃ A c, OrdIn F w ob lv A c
theorem OrdIn.lt {F : Nat → Prop} {w : World} {ob : Nat} {lv : Nat → List Taken} {A : Nat → Option Addr} {c : Nat → Nat} (h : OrdIn F w ob lv A c) : ob < w.heap.size := cell_lt (h.cell 0 (by omega))
theorem Ord.lt {F : Nat → Prop} {w : World} {ob : Nat} {lv : Nat → List Taken} (h : Ord F w ob lv) : ob < w.heap.size := by
  obtain ⟨_, A, c, h⟩ := h
  exact h.lt
theorem Lies.mono {F G : Nat → Prop} {p : Nat} {A : Option Addr} {c : Nat} (h : Lies F p A c) (hFG : ∀ j, F j → G j) : Lies G p A c := h.imp id fun h b o hA => ⟨hFG b (h b o hA).1, (h b o hA).2⟩
theorem Ord.mono {F G : Nat → Prop} {w : World} {ob : Nat} {lv : Nat → List Taken} (h : Ord F w ob lv) (hFG : ∀ j, F j → G j) : Ord G w ob lv := by
  obtain ⟨h0, A, c, h⟩ := h
  exact ⟨hFG _ h0, A, c, h.cell, h.frz, h.own, fun i hi => (h.lies i hi).mono hFG, h.apart⟩
/-- it lies in blocks that are there -/
theorem Ord.trim {F : Nat → Prop} {w : World} {ob : Nat} {lv : Nat → List Taken} (h : Ord F w ob lv) : Ord (fun j => F j ∧ j < w.heap.size) w ob lv := by
  have hlt := h.lt
  obtain ⟨h0, A, c, h⟩ := h
  refine ⟨⟨h0, hlt⟩, A, c, h.cell, h.frz, h.own, fun i hi => ?_, h.apart⟩
  rcases (h.own i hi).lt with hc | ⟨b, off, hA, _, hb⟩
  · exact .inl hc
  · rcases h.lies i hi with hl | hl
    · exact .inl hl
    · exact .inr fun b' o' hA' => by
        have := hl b' o' hA'
        rw [hA] at hA'
        cases hA'
        exact ⟨⟨this.1, hb⟩, this.2⟩
theorem Ord.congr {F : Nat → Prop} {w : World} {ob : Nat} {lv lv' : Nat → List Taken} (h : Ord F w ob lv) (e : ∀ j, j < 5 → lv j = lv' j) : Ord F w ob lv' := by
  obtain ⟨h0, A, c, h⟩ := h
  exact ⟨h0, A, c, fun i hi => by rw [← e i hi]; exact h.cell i hi, h.frz, fun i hi => by rw [← e i hi]; exact h.own i hi, h.lies, h.apart⟩
theorem OrdIn.same {F : Nat → Prop} {w w' : World} {ob : Nat} {lv : Nat → List Taken} {A : Nat → Option Addr} {c : Nat → Nat} (h : OrdIn F w ob lv A c)
    (h0 : w'.heap[ob]? = w.heap[ob]?) (hr : ∀ i, i < 5 → c i = 0 ∨ ∀ b o, A i = some ⟨b, o, none⟩ → b < w.heap.size → w'.heap[b]? = w.heap[b]?) : OrdIn F w' ob lv A c :=
  ⟨fun i hi => (cell_same_block h0).trans (h.cell i hi), fun i => (frozen_same_block h0).trans (h.frz i), fun i hi => (h.own i hi).keep2 (hr i hi), h.lies, h.apart⟩
theorem OrdIn.below {F : Nat → Prop} {w w' : World} {ob : Nat} {lv : Nat → List Taken} {A : Nat → Option Addr} {c : Nat → Nat} (h : OrdIn F w ob lv A c) (hb : Below w.heap.size w w') : OrdIn F w' ob lv A c :=
  h.same (hb.block ob h.lt) fun _ _ => .inr fun b _ _ hlt => hb.block b hlt
theorem Ord.below {F : Nat → Prop} {w w' : World} {ob : Nat} {lv : Nat → List Taken} (h : Ord F w ob lv) (hb : Below w.heap.size w w') : Ord F w' ob lv := by
  obtain ⟨h0, A, c, h⟩ := h
  exact ⟨h0, A, c, h.below hb⟩
theorem Ord.only {F G : Nat → Prop} {w w' : World} {ob : Nat} {lv : Nat → List Taken} (h : Ord F w ob lv) (ho : Only G w w') (hG : ∀ j, F j → ¬ G j) : Ord F w' ob lv := by
  have hlt := h.lt
  obtain ⟨h0, A, c, h⟩ := h
  refine ⟨h0, A, c, h.same (ho.block ob hlt (hG ob h0)) fun i hi => (h.lies i hi).imp id fun hl b o hA hb => ho.block b hb (hG b (hl b o hA).1)⟩
/-- one level's row has been written, by what knows that level alone -/
theorem OrdIn.put {F : Nat → Prop} {w W w3 : World} {ob k : Nat} {lv : Nat → List Taken} {A : Nat → Option Addr} {c : Nat → Nat} (h : OrdIn F w ob lv A c) (h0 : F ob) (hk : k < 5) (hF : ∀ j, w.heap.size ≤ j → F j)
    (hW : Below w.heap.size w W) (hgr : W.grownBy w3 (rowOf (A k) (c k))) {A' : Option Addr} {c' n : Nat} {l' : List Taken} (hown : Own Taken.enc 29 2 w3 0 A' c' l') (hn : n = l'.length)
    (hloc : A' = A k ∧ c' = c k ∨ ∃ g, A' = some ⟨g, 0, none⟩ ∧ W.heap.size ≤ g) :
    Ord F (w3.setCell ⟨ob, k, none⟩ (.slice A' n c')) ob (upd lv k l') ∧ Only F w (w3.setCell ⟨ob, k, none⟩ (.slice A' n c')) := by
  subst hn
  have hob := h.lt
  have hWs := hW.size
  have hrow := (h.own k hk).row (h.lies k hk)
  have hon : Only F w w3 := (Only.of_below hW).trans (Only.grown hgr fun j hj => (hrow j hj).1)
  have hb3 : w3.heap[ob]? = w.heap[ob]? := (hgr.block ob (by omega) fun hr => (hrow ob hr.symm).2 rfl).trans (hW.block ob hob)
  have hlies : Lies F ob A' c' := by
    rcases hloc with ⟨rfl, rfl⟩ | ⟨g, rfl, hg⟩
    · exact h.lies k hk
    · exact .inr fun b o hA => by cases hA; exact ⟨hF _ (by omega), by omega⟩
  have hoth : ∀ i, i < 5 → i ≠ k → c i = 0 ∨ ∀ b o, A i = some ⟨b, o, none⟩ → b < w.heap.size → w3.heap[b]? = w.heap[b]? := by
    intro i hi hik
    by_cases hc0 : c i = 0
    · exact .inl hc0
    refine .inr fun b o hA hlt => (hgr.block b (by omega) fun hr => ?_).trans (hW.block b hlt)
    unfold rowOf at hr
    split at hr
    · cases hr
    · rename_i hck
      rcases (h.own k hk).2.2 with h0 | ⟨b', off', _, hAk, _⟩
      · exact hck h0
      · rw [hAk] at hr
        simp at hr
        subst hr
        rcases h.apart i k hi hk hik b o off' hA hAk with h | h
        · exact hc0 h
        · exact hck h
  have hset : ∀ b, b ≠ ob → (w3.setCell ⟨ob, k, none⟩ (.slice A' l'.length c')).heap[b]? = w3.heap[b]? := fun b hb => Below.heap_setCell _ _ _ _ hb
  refine ⟨⟨h0, fun j => if j = k then A' else A j, fun j => if j = k then c' else c j, ?_, ?_, ?_, ?_, ?_⟩, hon.setCell _ _ h0⟩
  · intro i hi
    by_cases hik : i = k
    · subst hik
      simp only [upd, if_pos]
      exact World.cell?_setCell_same _ _ _ ((cell_same_block (p := ⟨ob, i, none⟩) hb3).trans (h.cell i hi))
    · simp only [upd, if_neg hik]
      rw [World.cell?_setCell_other _ _ _ _ (by intro e; injection e with _ e; exact hik e.symm)]
      exact (cell_same_block (p := ⟨ob, i, none⟩) hb3).trans (h.cell i hi)
  · intro i
    rw [World.frozen?_setCell]
    exact (frozen_same_block (p := ⟨ob, i, none⟩) hb3).trans (h.frz i)
  · intro i hi
    by_cases hik : i = k
    · subst hik
      simp only [upd, if_pos]
      exact hown.keep2 (hlies.imp id fun h b o hA _ => hset b (h b o hA).2)
    · simp only [upd, if_neg hik]
      refine Own.keep2 ((h.own i hi).keep2 (w' := w3) (hoth i hi hik)) ((h.lies i hi).imp id fun h b o hA _ => hset b (h b o hA).2)
  · intro i hi
    by_cases hik : i = k
    · simp only [if_pos hik]; exact hlies
    · simp only [if_neg hik]; exact h.lies i hi
  · have key : ∀ i, i < 5 → i ≠ k → ∀ b o o', A i = some ⟨b, o, none⟩ → A' = some ⟨b, o', none⟩ → c i = 0 ∨ c' = 0 := by
      intro i hi hik b o o' hA hA'
      rcases hloc with ⟨rfl, rfl⟩ | ⟨g, rfl, hg⟩
      · exact h.apart i k hi hk hik b o o' hA hA'
      · cases hA'
        rcases (h.own i hi).lt with hc | ⟨b2, o2, hA2, _, hlt⟩
        · exact .inl hc
        · rw [hA] at hA2
          cases hA2
          omega
    intro i j hi hj hij b o o' hAi hAj
    by_cases hik : i = k
    · have hjk : j ≠ k := fun e => hij (hik.trans e.symm)
      simp only [if_pos hik, if_neg hjk] at hAi hAj ⊢
      exact (key j hj hjk b o' o hAj hAi).symm
    · by_cases hjk : j = k
      · simp only [if_neg hik, if_pos hjk] at hAi hAj ⊢
        exact key i hi hik b o o' hAi hAj
      · simp only [if_neg hik, if_neg hjk] at hAi hAj ⊢
        exact h.apart i j hi hj hij b o o' hAi hAj
/-- the same, where the slice stays as it is -/
theorem OrdIn.put2 {F : Nat → Prop} {w w3 : World} {ob k : Nat} {lv : Nat → List Taken} {A : Nat → Option Addr} {c : Nat → Nat} (h : OrdIn F w ob lv A c) (h0 : F ob) (hk : k < 5)
    (hgr : w.grownBy w3 (rowOf (A k) (c k))) {l' : List Taken} (hown : Own Taken.enc 29 2 w3 0 (A k) (c k) l') (hn : l'.length = (lv k).length) :
    Ord F w3 ob (upd lv k l') ∧ Only F w w3 := by
  have hob := h.lt
  have hrow := (h.own k hk).row (h.lies k hk)
  have hon : Only F w w3 := Only.grown hgr fun j hj => (hrow j hj).1
  have hb3 : w3.heap[ob]? = w.heap[ob]? := hgr.block ob hob fun hr => (hrow ob hr.symm).2 rfl
  refine ⟨⟨h0, A, c, ?_, ?_, ?_, h.lies, h.apart⟩, hon⟩
  · intro i hi
    have := (cell_same_block (p := ⟨ob, i, none⟩) hb3).trans (h.cell i hi)
    by_cases hik : i = k
    · subst hik
      rw [this, upd, if_pos rfl, hn]
    · rw [this, upd, if_neg hik]
  · exact fun i => (frozen_same_block (p := ⟨ob, i, none⟩) hb3).trans (h.frz i)
  · intro i hi
    by_cases hik : i = k
    · subst hik
      rw [upd, if_pos rfl]
      exact hown
    · rw [upd, if_neg hik]
      refine (h.own i hi).keep2 ?_
      by_cases hc0 : c i = 0
      · exact .inl hc0
      refine .inr fun b o hA hlt => hgr.block b hlt fun hr => ?_
      unfold rowOf at hr
      split at hr
      · cases hr
      · rename_i hck
        rcases (h.own k hk).2.2 with h0 | ⟨b', off', _, hAk, _⟩
        · exact hck h0
        · rw [hAk] at hr
          simp at hr
          subst hr
          rcases h.apart i k hi hk hik b o off' hA hAk with h | h
          · exact hc0 h
          · exact hck h
end Go.Proofs.Ytamcehfcjcmpmaa
