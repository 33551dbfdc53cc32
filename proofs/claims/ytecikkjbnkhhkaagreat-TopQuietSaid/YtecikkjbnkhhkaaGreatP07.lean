/- A part of the walk. -/
import Derived.Test.YtecikkjbnkhhkaaGreatP04
import Derived.Test.YtecikkjbnkhhkaaGreatP06
namespace Go.Proofs.YtecikkjbnkhhkaaGreat
open _root_.Go.Proofs.Tryz
set_option maxHeartbeats 8000000
set_option maxRecDepth 100000
section
open Go.RowKit
structure Only (F : Nat → Prop) (w w' : World) : Prop where
 os : w'.os = w.os
 tape : w'.tape = w.tape
 output : w'.output = w.output
 size : w.heap.size ≤ w'.heap.size
 block : ∀ j, j < w.heap.size → ¬ F j → w'.heap[j]? = w.heap[j]?
theorem Only.refl (F : Nat → Prop) (w : World) : Only F w w := ⟨rfl, rfl, rfl, Nat.le_refl _, fun _ _ _ => rfl⟩
theorem Only.trans {F : Nat → Prop} {a b c : World} (h : Only F a b) (k : Only F b c) : Only F a c :=
 ⟨k.os.trans h.os, k.tape.trans h.tape, k.output.trans h.output, Nat.le_trans h.size k.size, fun j hj hn => (k.block j (Nat.lt_of_lt_of_le hj h.size) hn).trans (h.block j hj hn)⟩
theorem Only.of_below {F : Nat → Prop} {w w' : World} (h : Below w.heap.size w w') : Only F w w' := ⟨h.os, h.tape, h.output, h.size, fun j hj _ => h.block j hj⟩
theorem Only.below {F : Nat → Prop} {lo : Nat} {w w' : World} (h : Only F w w') (hF : ∀ j, F j → lo ≤ j) (hlo : lo ≤ w.heap.size) : Below lo w w' :=
 ⟨h.os, h.tape, h.output, h.size, fun j hj => h.block j (Nat.lt_of_lt_of_le hj hlo) fun hf => absurd (hF j hf) (by omega)⟩
theorem Only.grown {F : Nat → Prop} {w w' : World} {row : Option Nat} (h : w.grownBy w' row) (hF : ∀ j, row = some j → F j) : Only F w w' :=
 ⟨h.os, h.tape, h.output, h.size, fun j hj hn => h.block j hj fun hr => hn (hF j hr.symm)⟩
theorem Only.mono {F G : Nat → Prop} {w w' : World} (h : Only F w w') (hFG : ∀ j, F j → G j) : Only G w w' := ⟨h.os, h.tape, h.output, h.size, fun j hj hn => h.block j hj fun hf => hn (hFG j hf)⟩
theorem Only.setCell {F : Nat → Prop} {w w' : World} (h : Only F w w') (p : Addr) (v : Value) (hp : F p.block) : Only F w (w'.setCell p v) :=
 h.trans ⟨rfl, rfl, rfl, by simp, fun j hj hn => Below.heap_setCell _ _ _ _ fun hb => hn (hb ▸ hp)⟩
theorem Own.keep2 {α : Type} {enc : α → List Value} {e : TypeId} {k : Nat} {w w' : World} {lo : Nat} {A : Option Addr} {c : Nat} {l : List α} (h : Own enc e k w lo A c l)
 (hk : c = 0 ∨ ∀ b off, A = some ⟨b, off, none⟩ → b < w.heap.size → w'.heap[b]? = w.heap[b]?) : Own enc e k w' lo A c l := by
 rcases hk with hk | hk
 · exact ⟨h.1, h.2.1, .inl hk⟩
 · exact h.keep fun b off hA _ hlt => hk b off hA hlt
def Lies (F : Nat → Prop) (p : Nat) (A : Option Addr) (c : Nat) : Prop := c = 0 ∨ ∀ b o, A = some ⟨b, o, none⟩ → F b ∧ b ≠ p
theorem Own.row {α : Type} {enc : α → List Value} {e : TypeId} {k : Nat} {w : World} {lo : Nat} {A : Option Addr} {c : Nat} {l : List α} {F : Nat → Prop} {p : Nat} (h : Own enc e k w lo A c l) (hl : Lies F p A c) :
 ∀ j, qa8 A c = some j → F j ∧ j ≠ p := by
 intro j hj; unfold qa8 at hj; split at hj
 · cases hj
 · rcases h.2.2 with h0 | ⟨b, off, cur, rfl, _⟩
   · exact absurd h0 ‹_›
   · rcases hl with hl | hl
     · exact absurd hl ‹_›
     · simp at hj
       subst hj; exact hl b off rfl
theorem qnz {w : World} {p : Addr} {v : Value} (h : w.cell? p = some v) : p.block < w.heap.size := by
 rcases Nat.lt_or_ge p.block w.heap.size with h' | h'
 · exact h'
 · unfold World.cell? at h
   rw [Array.getElem?_eq_none h'] at h; cases h
theorem qaj {w w' : World} {p : Addr} (h : w'.heap[p.block]? = w.heap[p.block]?) : w'.cell? p = w.cell? p := by unfold World.cell?; rw [h]
theorem qbg {w w' : World} {p : Addr} (h : w'.heap[p.block]? = w.heap[p.block]?) : w'.frozen? p = w.frozen? p := by unfold World.frozen?; rw [h]
def upd (lv : Nat → List qa3) (k : Nat) (l : List qa3) : Nat → List qa3 := fun j => if j = k then l else lv j
structure qgc (F : Nat → Prop) (w : World) (ob : Nat) (lv : Nat → List qa3) (A : Nat → Option Addr) (c : Nat → Nat) : Prop where
 cell : ∀ i, i < 4 → w.cell? ⟨ob, i, none⟩ = some (.slice (A i) (lv i).length (c i))
 frz : ∀ i, w.frozen? ⟨ob, i, none⟩ = false
 own : ∀ i, i < 4 → Own qa3.enc 85 5 w 0 (A i) (c i) (lv i)
 lies : ∀ i, i < 4 → Lies F ob (A i) (c i)
 apart : ∀ i j, i < 4 → j < 4 → i ≠ j → ∀ b o o', A i = some ⟨b, o, none⟩ → A j = some ⟨b, o', none⟩ → c i = 0 ∨ c j = 0
def Ord (F : Nat → Prop) (w : World) (ob : Nat) (lv : Nat → List qa3) : Prop := F ob ∧ ∃ A c, qgc F w ob lv A c
theorem qgc.lt {F : Nat → Prop} {w : World} {ob : Nat} {lv : Nat → List qa3} {A : Nat → Option Addr} {c : Nat → Nat} (h : qgc F w ob lv A c) : ob < w.heap.size := qnz (h.cell 0 (by omega))
theorem Ord.lt {F : Nat → Prop} {w : World} {ob : Nat} {lv : Nat → List qa3} (h : Ord F w ob lv) : ob < w.heap.size := by
 obtain ⟨_, A, c, h⟩ := h; exact h.lt
theorem Lies.mono {F G : Nat → Prop} {p : Nat} {A : Option Addr} {c : Nat} (h : Lies F p A c) (hFG : ∀ j, F j → G j) : Lies G p A c := h.imp id fun h b o hA => ⟨hFG b (h b o hA).1, (h b o hA).2⟩
theorem Ord.mono {F G : Nat → Prop} {w : World} {ob : Nat} {lv : Nat → List qa3} (h : Ord F w ob lv) (hFG : ∀ j, F j → G j) : Ord G w ob lv := by
 obtain ⟨h0, A, c, h⟩ := h; exact ⟨hFG _ h0, A, c, h.cell, h.frz, h.own, fun i hi => (h.lies i hi).mono hFG, h.apart⟩
theorem Ord.trim {F : Nat → Prop} {w : World} {ob : Nat} {lv : Nat → List qa3} (h : Ord F w ob lv) : Ord (fun j => F j ∧ j < w.heap.size) w ob lv := by
 have hlt := h.lt; obtain ⟨h0, A, c, h⟩ := h; refine ⟨⟨h0, hlt⟩, A, c, h.cell, h.frz, h.own, fun i hi => ?_, h.apart⟩; rcases (h.own i hi).lt with hc | ⟨b, off, hA, _, hb⟩
 · exact .inl hc
 · rcases h.lies i hi with hl | hl
   · exact .inl hl
   · exact .inr fun b' o' hA' => by
      have := hl b' o' hA'; rw [hA] at hA'; cases hA'
      exact ⟨⟨this.1, hb⟩, this.2⟩
theorem Ord.congr {F : Nat → Prop} {w : World} {ob : Nat} {lv lv' : Nat → List qa3} (h : Ord F w ob lv) (e : ∀ j, j < 4 → lv j = lv' j) : Ord F w ob lv' := by
 obtain ⟨h0, A, c, h⟩ := h; exact ⟨h0, A, c, fun i hi => by rw [← e i hi]; exact h.cell i hi, h.frz, fun i hi => by rw [← e i hi]; exact h.own i hi, h.lies, h.apart⟩
theorem qgc.same {F : Nat → Prop} {w w' : World} {ob : Nat} {lv : Nat → List qa3} {A : Nat → Option Addr} {c : Nat → Nat} (h : qgc F w ob lv A c)
 (h0 : w'.heap[ob]? = w.heap[ob]?) (hr : ∀ i, i < 4 → c i = 0 ∨ ∀ b o, A i = some ⟨b, o, none⟩ → b < w.heap.size → w'.heap[b]? = w.heap[b]?) : qgc F w' ob lv A c :=
 ⟨fun i hi => (qaj h0).trans (h.cell i hi), fun i => (qbg h0).trans (h.frz i), fun i hi => (h.own i hi).keep2 (hr i hi), h.lies, h.apart⟩
theorem qgc.below {F : Nat → Prop} {w w' : World} {ob : Nat} {lv : Nat → List qa3} {A : Nat → Option Addr} {c : Nat → Nat} (h : qgc F w ob lv A c) (hb : Below w.heap.size w w') : qgc F w' ob lv A c :=
 h.same (hb.block ob h.lt) fun _ _ => .inr fun b _ _ hlt => hb.block b hlt
theorem Ord.below {F : Nat → Prop} {w w' : World} {ob : Nat} {lv : Nat → List qa3} (h : Ord F w ob lv) (hb : Below w.heap.size w w') : Ord F w' ob lv := by
 obtain ⟨h0, A, c, h⟩ := h; exact ⟨h0, A, c, h.below hb⟩
theorem Ord.only {F G : Nat → Prop} {w w' : World} {ob : Nat} {lv : Nat → List qa3} (h : Ord F w ob lv) (ho : Only G w w') (hG : ∀ j, F j → ¬ G j) : Ord F w' ob lv := by
 have hlt := h.lt; obtain ⟨h0, A, c, h⟩ := h; refine ⟨h0, A, c, h.same (ho.block ob hlt (hG ob h0)) fun i hi => (h.lies i hi).imp id fun hl b o hA hb => ho.block b hb (hG b (hl b o hA).1)⟩
theorem qgc.put {F : Nat → Prop} {w W w3 : World} {ob k : Nat} {lv : Nat → List qa3} {A : Nat → Option Addr} {c : Nat → Nat} (h : qgc F w ob lv A c) (h0 : F ob) (hk : k < 4) (hF : ∀ j, w.heap.size ≤ j → F j)
 (hW : Below w.heap.size w W) (hgr : W.grownBy w3 (qa8 (A k) (c k))) {A' : Option Addr} {c' n : Nat} {l' : List qa3} (hown : Own qa3.enc 85 5 w3 0 A' c' l') (hn : n = l'.length)
 (hloc : A' = A k ∧ c' = c k ∨ ∃ g, A' = some ⟨g, 0, none⟩ ∧ W.heap.size ≤ g) :
 Ord F (w3.setCell ⟨ob, k, none⟩ (.slice A' n c')) ob (upd lv k l') ∧ Only F w (w3.setCell ⟨ob, k, none⟩ (.slice A' n c')) := by
 subst hn; have hob := h.lt; have hWs := hW.size; have hrow := (h.own k hk).row (h.lies k hk); have hon : Only F w w3 := (Only.of_below hW).trans (Only.grown hgr fun j hj => (hrow j hj).1); have hb3 : w3.heap[ob]? = w.heap[ob]? := (hgr.block ob (by omega) fun hr => (hrow ob hr.symm).2 rfl).trans (hW.block ob hob); have hlies : Lies F ob A' c' := by
  rcases hloc with ⟨rfl, rfl⟩ | ⟨g, rfl, hg⟩
  · exact h.lies k hk
  · exact .inr fun b o hA => by cases hA; exact ⟨hF _ (by omega), by omega⟩
 have hoth : ∀ i, i < 4 → i ≠ k → c i = 0 ∨ ∀ b o, A i = some ⟨b, o, none⟩ → b < w.heap.size → w3.heap[b]? = w.heap[b]? := by
  intro i hi hik; by_cases hc0 : c i = 0
  · exact .inl hc0
  refine .inr fun b o hA hlt => (hgr.block b (by omega) fun hr => ?_).trans (hW.block b hlt)
  unfold qa8 at hr; split at hr
  · cases hr
  · rename_i hck
    rcases (h.own k hk).2.2 with h0 | ⟨b', off', _, hAk, _⟩
    · exact hck h0
    · rw [hAk] at hr
      simp at hr; subst hr; rcases h.apart i k hi hk hik b o off' hA hAk with h | h
      · exact hc0 h
      · exact hck h
 have hset : ∀ b, b ≠ ob → (w3.setCell ⟨ob, k, none⟩ (.slice A' l'.length c')).heap[b]? = w3.heap[b]? := fun b hb => Below.heap_setCell _ _ _ _ hb
 refine ⟨⟨h0, fun j => if j = k then A' else A j, fun j => if j = k then c' else c j, ?_, ?_, ?_, ?_, ?_⟩, hon.setCell _ _ h0⟩
 · intro i hi
   by_cases hik : i = k
   · subst hik
     simp only [upd, if_pos]; exact World.cell?_setCell_same _ _ _ ((qaj (p := ⟨ob, i, none⟩) hb3).trans (h.cell i hi))
   · simp only [upd, if_neg hik]
     rw [World.cell?_setCell_other _ _ _ _ (by intro e; injection e with _ e; exact hik e.symm)]; exact (qaj (p := ⟨ob, i, none⟩) hb3).trans (h.cell i hi)
 · intro i
   rw [World.frozen?_setCell]; exact (qbg (p := ⟨ob, i, none⟩) hb3).trans (h.frz i)
 · intro i hi
   by_cases hik : i = k
   · subst hik
     simp only [upd, if_pos]; exact hown.keep2 (hlies.imp id fun h b o hA _ => hset b (h b o hA).2)
   · simp only [upd, if_neg hik]
     refine Own.keep2 ((h.own i hi).keep2 (w' := w3) (hoth i hi hik)) ((h.lies i hi).imp id fun h b o hA _ => hset b (h b o hA).2)
 · intro i hi
   by_cases hik : i = k
   · simp only [if_pos hik]; exact hlies
   · simp only [if_neg hik]; exact h.lies i hi
 · have key : ∀ i, i < 4 → i ≠ k → ∀ b o o', A i = some ⟨b, o, none⟩ → A' = some ⟨b, o', none⟩ → c i = 0 ∨ c' = 0 := by
    intro i hi hik b o o' hA hA'; rcases hloc with ⟨rfl, rfl⟩ | ⟨g, rfl, hg⟩
    · exact h.apart i k hi hk hik b o o' hA hA'
    · cases hA'
      rcases (h.own i hi).lt with hc | ⟨b2, o2, hA2, _, hlt⟩
      · exact .inl hc
      · rw [hA] at hA2
        cases hA2
        omega
   intro i j hi hj hij b o o' hAi hAj; by_cases hik : i = k
   · have hjk : j ≠ k := fun e => hij (hik.trans e.symm)
     simp only [if_pos hik, if_neg hjk] at hAi hAj ⊢; exact (key j hj hjk b o' o hAj hAi).symm
   · by_cases hjk : j = k
     · simp only [if_neg hik, if_pos hjk] at hAi hAj ⊢
       exact key i hi hik b o o' hAi hAj
     · simp only [if_neg hik, if_neg hjk] at hAi hAj ⊢
       exact h.apart i j hi hj hij b o o' hAi hAj
theorem qgc.put2 {F : Nat → Prop} {w w3 : World} {ob k : Nat} {lv : Nat → List qa3} {A : Nat → Option Addr} {c : Nat → Nat} (h : qgc F w ob lv A c) (h0 : F ob) (hk : k < 4)
 (hgr : w.grownBy w3 (qa8 (A k) (c k))) {l' : List qa3} (hown : Own qa3.enc 85 5 w3 0 (A k) (c k) l') (hn : l'.length = (lv k).length) :
 Ord F w3 ob (upd lv k l') ∧ Only F w w3 := by
 have hob := h.lt; have hrow := (h.own k hk).row (h.lies k hk); have hon : Only F w w3 := Only.grown hgr fun j hj => (hrow j hj).1
 have hb3 : w3.heap[ob]? = w.heap[ob]? := hgr.block ob hob fun hr => (hrow ob hr.symm).2 rfl
 refine ⟨⟨h0, A, c, ?_, ?_, ?_, h.lies, h.apart⟩, hon⟩
 · intro i hi
   have := (qaj (p := ⟨ob, i, none⟩) hb3).trans (h.cell i hi); by_cases hik : i = k
   · subst hik
     rw [this, upd, if_pos rfl, hn]
   · rw [this, upd, if_neg hik]
 · exact fun i => (qbg (p := ⟨ob, i, none⟩) hb3).trans (h.frz i)
 · intro i hi
   by_cases hik : i = k
   · subst hik
     rw [upd, if_pos rfl]; exact hown
   · rw [upd, if_neg hik]
     refine (h.own i hi).keep2 ?_; by_cases hc0 : c i = 0
     · exact .inl hc0
     refine .inr fun b o hA hlt => hgr.block b hlt fun hr => ?_
     unfold qa8 at hr; split at hr
     · cases hr
     · rename_i hck
       rcases (h.own k hk).2.2 with h0 | ⟨b', off', _, hAk, _⟩
       · exact hck h0
       · rw [hAk] at hr
         simp at hr; subst hr; rcases h.apart i k hi hk hik b o off' hA hAk with h | h
         · exact hc0 h
         · exact hck h
end
section
open Go.RowKit Go.MapKept
open Go.ChangeMaps (setBlock)
def qd0 (L : List qa3) (key : ByteArray) : Option qa3 := L.find? fun x => decide (x.key = key)
structure MpL (es : Array MapEntry) (clock : Nat) (L : List qa3) : Prop where
 st : Stamped es clock
 len : es.size = L.length
 row : ∀ j (h : j < L.length), ∃ e, es[j]? = some e ∧ e.key = .string L[j].key ∧ e.val = L[j].val
section
variable {es : Array MapEntry} {clock r : Nat} {L : List qa3} {w : World} {key : ByteArray}
theorem MpL.nil : MpL #[] 0 [] := ⟨stamped_empty 0, rfl, fun j h => absurd h (by simp)⟩
theorem MpL.isKey (h : MpL es clock L) : ∀ e ∈ es.toList, IsKey .string e.key := by
 intro e he; obtain ⟨j, hj, rfl⟩ := List.getElem_of_mem he; have hl : j < L.length := by rw [← h.len]; simpa using hj
 obtain ⟨e', h1, h2, _⟩ := h.row j hl; have : es.toList[j] = e' := by
  have := Array.getElem?_eq_some_iff.1 h1; simpa using this.2
 rw [this, h2]; trivial
theorem MpL.keys (h : MpL es clock L) : es.toList.map (·.key) = L.map fun x => Value.string x.key := by
 apply List.ext_getElem?; intro j; rw [List.getElem?_map, List.getElem?_map, Array.getElem?_toList]; by_cases hj : j < L.length
 · obtain ⟨e, h1, h2, _⟩ := h.row j hj
   rw [h1, List.getElem?_eq_getElem hj]; simp [h2]
 · rw [List.getElem?_eq_none (by omega), Array.getElem?_eq_none (by rw [h.len]; omega)]
   rfl
theorem MpL.nodup (h : MpL es clock L) : (L.map (·.key)).Nodup := by
 have h3 := h.st.2.2; rw [h.keys, List.Nodup, List.pairwise_map] at h3; rw [List.Nodup, List.pairwise_map]; exact h3.imp fun hab he => hab (by rw [he])
theorem MpL.uniq (h : MpL es clock L) {i j : Nat} (hi : i < L.length) (hj : j < L.length) (he : L[i].key = L[j].key) : i = j := by
 have hn := List.pairwise_iff_getElem.1 h.nodup; rcases Nat.lt_trichotomy i j with hlt | rfl | hlt
 · exact (hn i j (by simpa using hi) (by simpa using hj) hlt (by simp only [List.getElem_map]; exact he)).elim
 · rfl
 · exact (hn j i (by simpa using hj) (by simpa using hi) hlt (by simp only [List.getElem_map]; exact he.symm)).elim
theorem MpL.miss (h : MpL es clock L) (h2 : ∀ e ∈ es.toList, e.key ≠ .string key) : qd0 L key = none := by
 refine List.find?_eq_none.2 fun x hx => ?_
 obtain ⟨j, hj, rfl⟩ := List.getElem_of_mem hx; obtain ⟨e, h1, h3, _⟩ := h.row j hj; have := h2 e (by have := Array.mem_of_getElem? h1; simpa using this); intro hk; exact this (by rw [h3]; simp at hk; rw [hk])
theorem MpL.hit (h : MpL es clock L) {j : Nat} {e : MapEntry} (h2 : es.toList[j]? = some e) (h3 : e.key = .string key) : ∃ hj : j < L.length, L[j].key = key ∧ e.val = L[j].val ∧ qd0 L key = some L[j] := by
 have hj : j < L.length := by
  have := (List.getElem?_eq_some_iff.1 h2).1; rw [← h.len]; simpa using this
 obtain ⟨e', h4, h5, h6⟩ := h.row j hj; have : e = e' := by rw [Array.getElem?_toList] at h2; exact Option.some.inj (h2.symm.trans h4)
 subst this; have hk : L[j].key = key := by rw [h3] at h5; injection h5 with h5; exact h5.symm
 refine ⟨hj, hk, h6, ?_⟩; refine List.find?_eq_some_iff_getElem.2 ⟨by simpa using hk, j, hj, rfl, fun i hi => ?_⟩; simp only [Bool.not_eq_eq_eq_not, Bool.not_true, decide_eq_false_iff_not]; intro he; have := h.uniq (by omega) hj (he.trans hk.symm); omega
def MapL (w : World) (r : Nat) (L : List qa3) : Prop := ∃ es clock, w.heap[r]? = some (.map es clock) ∧ MpL es clock L
theorem MapL.lt (h : MapL w r L) : r < w.heap.size := by
 obtain ⟨es, clock, h1, _⟩ := h; exact (Array.getElem?_eq_some_iff.1 h1).1
theorem MapL.same {w' : World} (h : MapL w r L) (hb : w'.heap[r]? = w.heap[r]?) : MapL w' r L := by
 obtain ⟨es, clock, h1, h2⟩ := h; exact ⟨es, clock, hb.trans h1, h2⟩
theorem MapL.nodup (h : MapL w r L) : (L.map (·.key)).Nodup := h.choose_spec.choose_spec.2.nodup
theorem qk6 (h : MapL w r L) (key : ByteArray) : (Instr.lookup 195 (.map (some r)) (.string key) true).run prog w = .ok (.tuple #[((qd0 L key).getD qak).val, .bool (qd0 L key).isSome]) w := by
 obtain ⟨es, clock, hb, hm⟩ := h; have ht : prog.underlying 195 = some (.map 9 85) := underlying195; have hs : prog.underlying 9 = some .string := underlying9; rcases findNow_spec (d := .string) (k := .string key) trivial es.toList 0 hm.isKey with ⟨h1, h2⟩ | ⟨j, e, h1, h2, h3⟩
 · rw [hm.miss h2]
   simp [Instr.lookup, run_underlying ht, MapKept.run_getObj_map hb, run_checkKey hs (k := .string key) trivial, run_findKey hs h1, Result.andThen]; rfl
 · obtain ⟨hj, hk, hv, hl⟩ := hm.hit h2 h3
   rw [hl]; simp [Instr.lookup, run_underlying ht, MapKept.run_getObj_map hb, run_checkKey hs (k := .string key) trivial, run_findKey hs h1, hv, Result.andThen]
theorem qw6 (h : MapL w r L) (key : ByteArray) : (Instr.lookup 195 (.map (some r)) (.string key) false).run prog w = .ok ((qd0 L key).getD qak).val w := by
 obtain ⟨es, clock, hb, hm⟩ := h; have ht : prog.underlying 195 = some (.map 9 85) := underlying195; have hs : prog.underlying 9 = some .string := underlying9; rcases findNow_spec (d := .string) (k := .string key) trivial es.toList 0 hm.isKey with ⟨h1, h2⟩ | ⟨j, e, h1, h2, h3⟩
 · rw [hm.miss h2]
   simp [Instr.lookup, run_underlying ht, MapKept.run_getObj_map hb, run_checkKey hs (k := .string key) trivial, run_findKey hs h1, Result.andThen]; rfl
 · obtain ⟨hj, hk, hv, hl⟩ := hm.hit h2 h3
   rw [hl]; simp [Instr.lookup, run_underlying ht, MapKept.run_getObj_map hb, run_checkKey hs (k := .string key) trivial, run_findKey hs h1, hv, Result.andThen]
def setM (L : List qa3) (x : qa3) : List qa3 := match L.findIdx? fun y => decide (y.key = x.key) with | some j => L.set j x | none => L ++ [x]
def delM (L : List qa3) (key : ByteArray) : List qa3 := match L.findIdx? fun y => decide (y.key = key) with | some j => L.eraseIdx j | none => L
theorem MpL.idx (h : MpL es clock L) {j : Nat} (hj : j < L.length) (hk : L[j].key = key) : L.findIdx? (fun y => decide (y.key = key)) = some j := by
 rw [List.findIdx?_eq_some_iff_getElem]; refine ⟨hj, by simpa using hk, fun i hi => ?_⟩; simp only [Bool.not_eq_true, decide_eq_false_iff_not]; intro he; have := h.uniq (by omega) hj (he.trans hk.symm); omega
theorem qp4 (h : qd0 L key = none) : L.findIdx? (fun y => decide (y.key = key)) = none := by
 rw [List.findIdx?_eq_none_iff]; intro x hx; have := List.find?_eq_none.1 h x hx; simpa using this
theorem qe8 {w : World} {r : Nat} {o o' : Obj} (hb : w.heap[r]? = some o) : w.grownBy (setBlock w r o') (some r) :=
 ⟨rfl, rfl, rfl, by simp [setBlock], fun i _ hne => (MapKept.heap_set hb).2 i fun h => hne (by rw [h])⟩
theorem qA8 (h : MapL w r L) (x : qa3) : ∃ w' : World, (Instr.mapUpdate 195 (.map (some r)) (.string x.key) x.val).run prog w = .ok () w' ∧ MapL w' r (setM L x) ∧ w.grownBy w' (some r) ∧ w'.heap.size = w.heap.size := by
 obtain ⟨es, clock, hb, hm⟩ := h; have ht : prog.underlying 195 = some (.map 9 85) := underlying195; have hs : prog.underlying 9 = some .string := underlying9; rcases findNow_spec (d := .string) (k := .string x.key) trivial es.toList 0 hm.isKey with ⟨h1, h2⟩ | ⟨j, e, h1, h2, h3⟩
 · refine ⟨setBlock w r (.map (es.push { key := .string x.key, val := x.val, born := clock }) (clock + 1)), ?_, ⟨_, _, (heap_set hb).1, ?_⟩, qe8 hb, by simp [setBlock]⟩
   · simp [Instr.mapUpdate, run_underlying ht, MapKept.run_getObj_map hb, run_checkKey hs (k := .string x.key) trivial, run_findKey hs h1, MapKept.run_setObj_map _ hb, Result.andThen, setBlock]
   · have hn := hm.miss h2
     rw [setM, qp4 hn]; refine ⟨stamped_push hm.st h2, by simp [hm.len], fun i hi => ?_⟩; simp only [List.length_append, List.length_cons, List.length_nil] at hi; rcases (by omega : i < L.length ∨ i = L.length) with hl | rfl
     · obtain ⟨e', q1, q2, q3⟩ := hm.row i hl
       refine ⟨e', ?_, ?_, ?_⟩
       · rw [Array.getElem?_push, if_neg (by rw [hm.len]; omega)]; exact q1
       · rw [List.getElem_append_left hl]; exact q2
       · rw [List.getElem_append_left hl]; exact q3
     · refine ⟨_, by rw [← hm.len]; exact Array.getElem?_push_size, ?_, ?_⟩
       · simp
       · simp
 · obtain ⟨hj, hk, hv, hl⟩ := hm.hit h2 h3
   have hje : es[j]? = some e := by simpa using h2
   refine ⟨setBlock w r (.map (es.modify j fun e => { e with key := .string x.key, val := x.val }) clock), ?_, ⟨_, _, (heap_set hb).1, ?_⟩, qe8 hb, by simp [setBlock]⟩
   · simp [Instr.mapUpdate, run_underlying ht, MapKept.run_getObj_map hb, run_checkKey hs (k := .string x.key) trivial, run_findKey hs h1, hje, h3, run_keyThatStays (d := .string) (k := .string x.key) trivial, MapKept.run_setObj_map _ hb, Result.andThen, setBlock]
   · rw [setM, hm.idx hj hk]
     refine ⟨stamped_modify hm.st _ _ (fun _ _ => rfl) (fun e' _ he' => by rw [hje] at he'; cases he'; exact h3.symm), by simp [hm.len], fun i hi => ?_⟩; simp only [List.length_set] at hi; obtain ⟨e', q1, q2, q3⟩ := hm.row i hi; by_cases hij : j = i
     · subst hij
       refine ⟨{ e with key := .string x.key, val := x.val }, ?_, ?_, ?_⟩
       · rw [Array.getElem?_modify, if_pos rfl, hje]; rfl
       · simp
       · simp
     · refine ⟨e', ?_, ?_, ?_⟩
       · rw [Array.getElem?_modify, if_neg hij]; exact q1
       · rw [List.getElem_set_ne hij]; exact q2
       · rw [List.getElem_set_ne hij]; exact q3
theorem qB1 (h : MapL w r L) (key : ByteArray) (ty : TypeId) : ∃ w' : World, (Builtin.delete_ #[195, 9] ty #[.map (some r), .string key]).run prog w = .ok (.tuple #[]) w' ∧ MapL w' r (delM L key) ∧ w.grownBy w' (some r) ∧ w'.heap.size = w.heap.size := by
 obtain ⟨es, clock, hb, hm⟩ := h; have ht : prog.underlying 195 = some (.map 9 85) := underlying195; have hs : prog.underlying 9 = some .string := underlying9; rcases findNow_spec (d := .string) (k := .string key) trivial es.toList 0 hm.isKey with ⟨h1, h2⟩ | ⟨j, e, h1, h2, h3⟩
 · refine ⟨setBlock w r (.map es clock), ?_, ⟨_, _, (heap_set hb).1, ?_⟩, qe8 hb, by simp [setBlock]⟩
   · simp [Builtin.delete_, run_underlying ht, MapKept.run_getObj_map hb, run_checkKey hs (k := .string key) trivial, run_findKey hs h1, MapKept.run_setObj_map _ hb, Result.andThen, setBlock]
   · rw [delM, qp4 (hm.miss h2)]
     exact hm
 · obtain ⟨hj, hk, hv, hl⟩ := hm.hit h2 h3
   have hjs : j < es.size := by rw [hm.len]; exact hj
   refine ⟨setBlock w r (.map (es.eraseIdxIfInBounds j) clock), ?_, ⟨_, _, (heap_set hb).1, ?_⟩, qe8 hb, by simp [setBlock]⟩
   · simp [Builtin.delete_, run_underlying ht, MapKept.run_getObj_map hb, run_checkKey hs (k := .string key) trivial, run_findKey hs h1, MapKept.run_setObj_map _ hb, Result.andThen, setBlock]
   · rw [delM, hm.idx hj hk]
     have he : es.eraseIdxIfInBounds j = es.eraseIdx j hjs := by simp [Array.eraseIdxIfInBounds, hjs]
     refine ⟨stamped_erase hm.st _, by rw [he]; simp [hm.len, List.length_eraseIdx, hj], fun i hi => ?_⟩; rw [List.length_eraseIdx, if_pos hj] at hi; rw [he, ← Array.getElem?_toList, Array.toList_eraseIdx, List.getElem?_eraseIdx]; by_cases hij : i < j
     · obtain ⟨e', q1, q2, q3⟩ := hm.row i (by omega)
       refine ⟨e', by rw [if_pos hij, Array.getElem?_toList]; exact q1, ?_, ?_⟩
       · rw [List.getElem_eraseIdx, dif_pos hij]; exact q2
       · rw [List.getElem_eraseIdx, dif_pos hij]; exact q3
     · obtain ⟨e', q1, q2, q3⟩ := hm.row (i + 1) (by omega)
       refine ⟨e', by rw [if_neg hij, Array.getElem?_toList]; exact q1, ?_, ?_⟩
       · rw [List.getElem_eraseIdx, dif_neg hij]; exact q2
       · rw [List.getElem_eraseIdx, dif_neg hij]; exact q3
end
end
section
open Go.RowKit Go.MapKept
open Go.ChangeMaps (setBlock)
def qld (L : List qa3) (I : List Nat) : List qa3 := I.map fun i => L.getD i qak
def qkr (w : World) (r it : Nat) (L : List qa3) (I : List Nat) : Prop := ∃ es clock since seen c0, w.heap[r]? = some (.map es clock) ∧ MpL es clock L ∧ w.heap[it]? = some (.mapIter (some r) since seen c0) ∧ (∀ x ∈ es.toList, x.born < since) ∧ since ≤ c0 ∧ since ≤ clock ∧
 I.Nodup ∧ (∀ i ∈ I, i < L.length) ∧ ∀ i (h : i < es.size), seen.contains es[i].born = true ↔ i ∈ I
theorem qvq {L : List qa3} {I : List Nat} (hn : I.Nodup) (hl : ∀ i ∈ I, i < L.length) (ha : ∀ i, i < L.length → i ∈ I) : (qld L I).Perm L := by
 have hp : I.Perm (List.range L.length) := (List.perm_ext_iff_of_nodup hn List.nodup_range).2 fun i => ⟨fun h => List.mem_range.2 (hl i h), fun h => ha i (List.mem_range.1 h)⟩
 have h2 : qld L (List.range L.length) = L := by
  apply List.ext_getElem?; intro i; unfold qld; rw [List.getElem?_map]; by_cases hi : i < L.length
  · rw [List.getElem?_range hi, List.getElem?_eq_getElem hi]
    simp [List.getD_eq_getElem?_getD, List.getElem?_eq_getElem hi]
  · rw [List.getElem?_eq_none (by simp; omega), List.getElem?_eq_none (by omega)]
    rfl
 exact (hp.map _).trans (by rw [show (List.range L.length).map (fun i => L.getD i qak) = L from h2])
section
variable {ops : Array Oper} {rest : List Oper} {o : Oper} {a : Act} {w : World} {Q : Exit → Act → World → Prop} {r it : Nat} {L : List qa3} {I : List Nat}
theorem qkr.same {w' : World} (h : qkr w r it L I) (h1 : w'.heap[r]? = w.heap[r]?) (h2 : w'.heap[it]? = w.heap[it]?) : qkr w' r it L I := by
 obtain ⟨es, clock, since, seen, c0, q1, q2, q3, q4⟩ := h; exact ⟨es, clock, since, seen, c0, h1.trans q1, q2, h2.trans q3, q4⟩
theorem qkr.lt (h : qkr w r it L I) : r < w.heap.size ∧ it < w.heap.size := by
 obtain ⟨es, clock, since, seen, c0, q1, q2, q3, q4⟩ := h; exact ⟨(Array.getElem?_eq_some_iff.1 q1).1, (Array.getElem?_eq_some_iff.1 q3).1⟩
theorem qi8 (hg : o.guard = none) (m : Operand) (hop : o.op = Op.range 195 m) (hm : a.eval m = .map (some r)) (h : MapL w r L)
 (hK : ∀ w', qkr w' r w.heap.size L [] → w.grownBy w' none → w'.heap.size = w.heap.size + 1 → wpList prog ops Q rest (a.put o.dst (.pointer (some ⟨w.heap.size, 0, none⟩))) w') : wpList prog ops Q (o :: rest) a w := by
 refine wpList_plain hg fun K' hK' => ?_
 have hlt := h.lt; obtain ⟨es, clock, hb, hc⟩ := h; have ht : prog.underlying 195 = some (.map 9 85) := underlying195; unfold Oper.wp; simp [execOp, hop, hm, run_range_map w 195 9 85 r es clock ht hb, Result.andThen]; refine hK' _ _ (hK _ ⟨es, clock, clock, #[], clock, ((MapKept.heap_alloc w _).2 r hlt).trans hb, hc, (MapKept.heap_alloc w _).1, hc.st.1, Nat.le_refl _, Nat.le_refl _, List.nodup_nil, by simp, fun i h => by simp⟩ (World.grownBy_alloc w _ none) (by simp))
theorem qji (hg : o.guard = none) (i : Operand) (hop : o.op = Op.next i false) (hi : a.eval i = .pointer (some ⟨it, 0, none⟩)) (h : qkr w r it L I)
 (hDone : (qld L I).Perm L → wpList prog ops Q rest (a.put o.dst (.tuple #[.bool false])) w)
 (hMore : ∀ (j : Nat) (x : qa3) (w' : World), x = L.getD j qak → qkr w' r it L (I ++ [j]) → w'.rangeLeft r it < w.rangeLeft r it → w.grownBy w' (some it) → w'.heap.size = w.heap.size →
  (Instr.entry (.pointer (some ⟨it, 0, none⟩))).run prog w' = .ok (.tuple #[.string x.key, x.val]) w' → wpList prog ops Q rest (a.put o.dst (.tuple #[.bool true, .string x.key, x.val])) w') :
 wpList prog ops Q (o :: rest) a w := by
 refine wpList_plain hg fun K' hK' => ?_
 obtain ⟨es, clock, since, seen, c0, hb, hc, hr, hold, hsc, hsk, hn, hl, hz⟩ := h; have hne : it ≠ r := fun e => by rw [e, hb] at hr; cases hr
 unfold Oper.wp; rcases run_next_at (P := prog) w o.type it r since c0 seen es clock hr hb hold hsc with ⟨h0, hrun⟩ | ⟨e, he, w1, hal, hrun⟩
 · simp [execOp, hop, hi, hrun, Result.andThen]
   refine hK' _ _ (hDone (qvq hn hl fun i hi => ?_)); have his : i < es.size := by rw [hc.len]; exact hi
   exact (hz i his).1 (all_seen es seen h0 _ (by simp))
 · obtain ⟨hem, hes⟩ := mem_left he
   obtain ⟨j, hj, hje⟩ := List.getElem_of_mem hem; have hjs : j < es.size := by simpa using hj
   have hjl : j < L.length := by rw [← hc.len]; exact hjs
   have hje' : es[j] = e := by simpa using hje
   obtain ⟨e', h1, hk, hv⟩ := hc.row j hjl; have hee : e' = e := by rw [Array.getElem?_eq_getElem hjs, hje'] at h1; exact (Option.some.inj h1).symm
   subst hee; have hjI : j ∉ I := fun hm => by
    have := (hz j hjs).2 hm; rw [hje', hes] at this; cases this
   have hr1 : w1.heap[it]? = some (.mapIter (some r) since seen c0) := by rcases hal with rfl | rfl <;> exact hr
   have hb1 : w1.heap[r]? = some (.map es clock) := by rcases hal with rfl | rfl <;> exact hb
   have hset := MapKept.heap_set (o' := .mapIter (some r) since (seen.push e'.born) clock) hr1; have hb' : (setBlock w1 it (.mapIter (some r) since (seen.push e'.born) clock)).heap[r]? = some (.map es clock) := (hset.2 r (fun e1 => hne e1.symm)).trans hb1; have hsh := left_shrinks es seen e' he; have hs1 : (setBlock w1 it (.mapIter (some r) since (seen.push e'.born) clock)).heap[it]? = some (.mapIter (some r) since (seen.push e'.born) clock) := hset.1; have hx : L.getD j qak = L[j] := by simp [List.getD_eq_getElem?_getD, List.getElem?_eq_getElem hjl]
   rw [hk, hv] at hrun; simp [execOp, hop, hi, hrun, Result.andThen]; rw [← hx]; refine hK' _ _ (hMore j (L.getD j qak) _ rfl ⟨es, clock, since, seen.push e'.born, clock, hb', hc, hset.1, hold, hsk, hsk, ?_, ?_, fun i his => ?_⟩ ?_ ?_ ?_ ?_)
   · exact List.nodup_append.2 ⟨hn, by simp, fun a ha b hb => by simp at hb; subst hb; exact fun e => hjI (e ▸ ha)⟩
   · intro i hi
     rcases List.mem_append.1 hi with h | h
     · exact hl i h
     · simp at h; subst h; exact hjl
   · rw [contains_push, List.mem_append]
     by_cases hij : i = j
     · subst hij
       simp [hje']
     · have hbn : (es[i].born == e'.born) = false := by
        rw [beq_eq_false_iff_ne]; intro hb2; have := born_inj hc.st.2.1 (x := es[i]) (e := e') (by simp) hem hb2; have h4 := List.pairwise_iff_getElem.1 hc.st.2.1; rcases Nat.lt_or_gt_of_ne hij with hlt | hlt
        · exact h4 i j (by simpa using his) (by simpa using hjs) hlt (by simp; rw [hb2, hje'])
        · exact h4 j i (by simpa using hjs) (by simpa using his) hlt (by simp; rw [hb2, hje'])
       rw [hbn, Bool.or_false, hz i his]; simp [hij]
   · simp only [World.rangeLeft, hb, hr, hb', hs1]
     exact hsh
   · rcases hal with rfl | rfl <;> exact ⟨rfl, rfl, rfl, by simp [setBlock], fun i _ hi => hset.2 i (fun e1 => hi (by rw [e1]))⟩
   · rcases hal with rfl | rfl <;> simp [setBlock]
   · have := run_entry_at (P := prog) _ it r since seen es clock e' hset.1 hb' hem hc.st.2.1
     rw [hk, hv, ← hx] at this; exact this
end
end
section
open Go.RowKit
def lvD (L : List qa3) (key : ByteArray) (k : Nat) : Nat → List qa3 := fun j => if j < k then qd9 (atLv L j) key else atLv L j
theorem qsj (L : List qa3) (key : ByteArray) (k : Nat) : lvD L key k k = atLv L k := by simp [lvD]
theorem qou (L : List qa3) (key : ByteArray) (k : Nat) (j : Nat) : upd (lvD L key k) k (qd9 (atLv L k) key) j = lvD L key (k + 1) j := by
 unfold upd lvD; by_cases h : j = k
 · subst h; simp
 · rw [if_neg h]
   by_cases h2 : j < k
   · rw [if_pos h2, if_pos (by omega)]
   · rw [if_neg h2, if_neg (by omega)]
theorem qk5 {L : List qa3} {key : ByteArray} {k : Nat} (h : hasL (atLv L k) key = false) (j : Nat) : lvD L key k j = lvD L key (k + 1) j := by
 rw [← qou, upd]; split
 · rename_i e
   rw [e, qsj, qj6 h]
 · rfl
theorem qz2 (L : List qa3) (key : ByteArray) (j : Nat) : lvD L key (qgn key) j = atLv (qd9 L key) j := by
 unfold lvD; split
 · rw [qsh]
 · rw [qlk (by assumption)]
theorem qs7 {F : Nat → Prop} {L : List qa3} {ob : Nat} (key : ByteArray) (w : World) (h : Ord F w ob (atLv L)) (hF : ∀ j, w.heap.size ≤ j → F j) (hr : Rise L) (hlen : L.length ≤ 50000) (hkey : key.size ≤ 1000000) :
 Calls prog 345 #[.pointer (some ⟨ob, 0, none⟩), .string key] w fun e w' => e = .returned (.bool (hasL L key)) ∧ Ord F w' ob (atLv (qd9 L key)) ∧ Only F w w' := by
 have hob := h.lt; have HO := hid h; have HR := hid hr; have HFr := hid hF; obtain ⟨n, hn⟩ : ∃ n, n = qgn key := ⟨_, rfl⟩; have hn4 := qhk key; rw [← hn] at hn4; have hlev : ∀ w, Calls prog 326 #[.string key] w fun e w' => e = .returned (.int .i64 (n : Nat)) ∧ w = w' := fun w => by rw [hn]; exact qiw key hkey w
 have HN := hid hn; have hn1 := hn4.1; have hn2 := hn4.2; clear h hr hF hn hn4 hkey; go_enter func345, ntmps345; go_wp2_with (go_at_call 326; refine (hlev _).mono ?_; rintro e w' ⟨rfl, rfl⟩); have HO0 : Hid (Ord F w ob (lvD L key 0)) := hid (HO.out.congr fun j _ => by simp [lvD]); go_loopw [5, 13] (fun v5 v13 wr => ∃ k : Nat, k ≤ n ∧ v13 = .int .i64 k ∧ v5 = .bool (decide (0 < k) && hasL L key) ∧ Ord F wr ob (lvD L key k) ∧ Only F w wr) (fun _ v13 _ => n - (intOf v13).toNat)
 case atStart => exact ⟨0, Nat.zero_le _, rfl, by simp, HO0.out, Only.refl _ _⟩
 case round =>
  obtain ⟨k, hkn, rfl, rfl, hord, honly⟩ := hrel; by_cases hlt : k < n
  · obtain ⟨hFob, A, c, hin⟩ := hord
    have c0 := hin.cell k (by omega); have HIN := hid hin; have HON := hid honly; have hobr := hin.lt; have hsz := honly.size; rw [qsj] at c0; have hown := hin.own k (by omega); rw [qsj] at hown; have HOW := hid hown; have hln := hown.len; have hmx := hown.max; have hk4 : (k : Int) < 4 := by omega
    have hll : (atLv L k).length ≤ 100000 := by have := qy2 L k; omega
    clear hin honly hown; go_wp2_with fail; refine (qli (atLv L k) (qhd HR.out k) _ _ key _ (((HOW.out.arr qa3.enc_len).below (by repeat (first | exact Below.refl _ _ | assumption | refine Below.drew ?_ | refine qa1 ?_ _ | refine Below.alloc ?_ (by first | omega | simp <;> omega) _ | refine Below.setCell ?_ (by first | omega | simp <;> omega) _))).more (by first | omega | simp <;> omega)) hln hmx hll).mono ?_; rintro e w1 ⟨rfl, hb1⟩; all_goals
     have bw1 : Below wr.heap.size wr w1 := Below.trans (by repeat (first | exact Below.refl _ _ | assumption | refine Below.drew ?_ | refine qa1 ?_ _ | refine Below.alloc ?_ (by first | omega | simp <;> omega) _ | refine Below.setCell ?_ (by first | omega | simp <;> omega) _)) (hb1.mono (by first | omega | simp <;> omega)); have hz1 := bw1.size; have c1 := (bw1.cell (p := ⟨ob, k, none⟩) hobr).trans c0; have HIN1 := hid (HIN.out.below bw1); have HOW1 := hid (HOW.out.below bw1); have hob1 : ob < w1.heap.size := by omega
     have hkey : hasL (atLv L k) key = hasL L key := qy7 (by rw [← HN.out]; exact hlt); have HKEY := hid hkey; clear hkey c0 hb1; obtain ⟨p, hp⟩ : ∃ p, p = posL (atLv L k) key := ⟨_, rfl⟩; rw [← hp]; have HP := hid hp; clear hp; cases hh : hasL (atLv L k) key with
     | true =>
      have HH := hid hh; have HS := qth (qhd HR.out k) hh; rw [← HP.out] at HS; have hpl := HS.1; have HST := hid HS.2; have HL4 := hid (HIN1.out.lies k (by omega)); have q1' := HIN1.out.frz k; clear HS hh; obtain ⟨b, off, hA, _, hbw⟩ : ∃ b off, A k = some ⟨b, off, none⟩ ∧ 0 ≤ b ∧ b < w1.heap.size := by
       rcases HOW1.out.lt with h0 | h0
       · omega
       · exact h0
      obtain ⟨m, hm⟩ : ∃ m, (atLv L k).length = m + 1 := ⟨(atLv L k).length - 1, by omega⟩; have HM := hid hm; have hpm : p ≤ m := by omega
      have hpl2 : (qd9 (atLv L k) key).length = m := by rw [HST.out, List.length_append, List.length_take, List.length_drop]; omega
      have HPL2 := hid hpl2; rw [hA, hm] at c1; have hOA := HOW1.out; have hrow : qa8 (A k) (c k) = some b := by rw [hA, qa8, if_neg (by omega)]; rfl
      rw [hA] at hOA; have HOA := hid hOA; have HROW := hid hrow; have hw1 : IntKind.i64.wrap ((p : Int) + 1) = (p : Int) + 1 := by rw [IntKind.wrap_i64]; omega
      clear hOA hm hpl2 hrow; go_wp2_with fail; go_region_with (go_at_call 365; refine (qwq (atLv L k) m b off (c k) 0 p _ (by exact HOA.out) HM.out hpm).mono ?_; rintro e w3 ⟨rfl, hown, hgr⟩; have hb3 : w3.heap[ob]? = w1.heap[ob]? := (hgr.block ob (by first | exact hob1 | (simp; omega)) fun hr => ((HOW1.out.row HL4.out ob (by rw [hA]; exact hr.symm)).2 rfl)); have q0 := (qaj (p := ⟨ob, k, none⟩) hb3).trans c1; have q1 := (qbg (p := ⟨ob, k, none⟩) hb3).trans q1'); all_goals
       go_wp2_with fail; go_roundw
       case rel =>
        obtain ⟨r1, r2⟩ := HIN1.out.put hFob (by omega) (fun j hj => HFr.out j (by have := HON.out.size; omega)) (W := w1.drew) (by repeat (first | exact Below.refl _ _ | assumption | refine Below.drew ?_ | refine qa1 ?_ _ | refine Below.alloc ?_ (by first | omega | simp <;> omega) _ | refine Below.setCell ?_ (by first | omega | simp <;> omega) _)) (by rw [hA]; exact hgr) hown (n := m) (by rw [← HST.out]; exact HPL2.out.symm) (.inl ⟨hA.symm, rfl⟩); refine ⟨k + 1, by omega, by go_num, ?_, ?_, (HON.out.trans (Only.of_below bw1)).trans r2⟩
        · rw [← HKEY.out, HH.out]
          simp
        · rw [← HST.out] at r1
          exact r1.congr fun j _ => qou L key k j
       case measure => simp [intOf]; omega
     | false =>
      have HH := hid hh; clear hh; go_wp2_with fail; go_roundw
      case rel =>
       refine ⟨k + 1, by omega, by go_num, ?_, ⟨hFob, A, c, ?_⟩, HON.out.trans (Only.of_below bw1)⟩
       · rw [← HKEY.out, HH.out]
         simp
       · obtain ⟨_, A2, c2, h2⟩ : Ord F w1 ob (lvD L key (k + 1)) := by exact Ord.congr ⟨hFob, A, c, HIN1.out⟩ fun j _ => qk5 HH.out j
         exact ⟨fun i hi => by rw [← qk5 HH.out i]; exact HIN1.out.cell i hi, HIN1.out.frz, fun i hi => by rw [← qk5 HH.out i]; exact HIN1.out.own i hi, HIN1.out.lies, HIN1.out.apart⟩
      case measure => simp [intOf]; omega
  · obtain rfl : k = n := by omega
    have HORD := hid hord; have HON := hid honly; clear hord honly; go_wp2; go_ret; refine ⟨?_, ?_, HON.out⟩
    · have : decide (0 < k) = true := by simp; omega
      simp [this]
    · exact HORD.out.congr fun j _ => by rw [HN.out]; exact qz2 L key j
end
end Go.Proofs.YtecikkjbnkhhkaaGreat
