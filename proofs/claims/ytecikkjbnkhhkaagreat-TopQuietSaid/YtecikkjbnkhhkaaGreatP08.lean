/- A part of the walk. -/
import Derived.Test.YtecikkjbnkhhkaaGreatP05
import Derived.Test.YtecikkjbnkhhkaaGreatP06
import Derived.Test.YtecikkjbnkhhkaaGreatP07
namespace Go.Proofs.YtecikkjbnkhhkaaGreat
open _root_.Go.Proofs.Tryz
set_option maxHeartbeats 1000000
section
open Go.RowKit
theorem qcn {P : Program} (w : World) (dT sT ty elem : TypeId) (i : TypeInfo) (b o dLen dCap : Nat) (a : Addr) (sLen sCap : Nat) (cs : List Value)
 (hu : P.underlying dT = some (.slice elem)) (hi : P.info? elem = some i) (hn : cs.length = Nat.min sLen dLen * i.size)
 (hsrc : ∀ j v, cs[j]? = some v → w.cell? (a.add j) = some v) (hc : ∀ j, j < cs.length → (w.cell? ⟨b, o + j, none⟩).isSome = true) (hf : ∀ j, j < cs.length → w.frozen? ⟨b, o + j, none⟩ = false) (h1 : ∀ v ∈ cs, v.oneCell' = true) :
 (Builtin.copy_ #[dT, sT] ty #[.slice (some ⟨b, o, none⟩) dLen dCap, .slice (some a) sLen sCap]).run P w = .ok (goInt (Nat.min sLen dLen)) (w.setCells b o cs) := by
 have hl := run_firstCells_some (P := P) w i.size (Nat.min sLen dLen) a sLen sCap cs hn hsrc; have hst := run_storeCells_cells (P := P) b o cs 0 w (by simpa using hc) (by simpa using hf) h1; simp [Builtin.copy_, run_underlying hu, Builtin.lenOf, sizeOf, typeInfo, hi, hl, hst]
theorem qf8 {α : Type} {enc : α → List Value} {k : Nat} (hk : ∀ x, (enc x).length = k) : ∀ (l : List α) (i : Nat), (l.take i).flatMap enc = (l.flatMap enc).take (i * k)
 | [], i => by simp
 | x :: l, 0 => by simp
 | x :: l, i + 1 => by
  simp only [List.take_succ_cons, List.flatMap_cons, qf8 hk l i]
  have h1 : (enc x).take ((i + 1) * k) = enc x := List.take_of_length_le (by rw [hk, Nat.succ_mul]; omega)
  have h2 : (i + 1) * k - k = i * k := by rw [Nat.succ_mul]; omega
  rw [List.take_append, hk, h1, h2]
theorem qlx {α : Type} {enc : α → List Value} {k : Nat} (hk : ∀ x, (enc x).length = k) : ∀ (l : List α) (i : Nat), (l.drop i).flatMap enc = (l.flatMap enc).drop (i * k)
 | [], i => by simp
 | x :: l, 0 => by simp
 | x :: l, i + 1 => by
  simp only [List.drop_succ_cons, List.flatMap_cons, qlx hk l i]
  have h1 : (enc x).drop ((i + 1) * k) = [] := List.drop_of_length_le (by rw [hk, Nat.succ_mul]; omega)
  have h2 : (i + 1) * k - k = i * k := by rw [Nat.succ_mul]; omega
  rw [List.drop_append, hk, h1, h2, List.nil_append]
def ins {α : Type} (l : List α) (i : Nat) (x : α) : List α := l.take i ++ x :: l.drop i
theorem qfx {α : Type} (l : List α) (i : Nat) (x : α) (h : i ≤ l.length) : (ins l i x).length = l.length + 1 := by simp [ins]; omega
theorem qwl {α : Type} {enc : α → List Value} {k : Nat} (hk : ∀ x, (enc x).length = k) (l : List α) (i : Nat) (x : α) :
 (ins l i x).flatMap enc = (l.flatMap enc).take (i * k) ++ (enc x ++ (l.flatMap enc).drop (i * k)) := by
 rw [ins, List.flatMap_append, List.flatMap_cons, qf8 hk, qlx hk]
theorem qln {α : Type} {enc : α → List Value} {k : Nat} (hk : ∀ x, (enc x).length = k) {l : List α} {i : Nat} {x : α} (hi : i ≤ l.length) {cur : Array Value} {off : Nat}
 (h1 : ∀ j u, ((l.flatMap enc).take (i * k))[j]? = some u → cur[off + j]? = some u) (h2 : ∀ j (u : Value), (enc x)[j]? = some u → cur[off + (i * k + j)]? = some u)
 (h3 : ∀ j u, ((l.flatMap enc).drop (i * k))[j]? = some u → cur[off + ((i + 1) * k + j)]? = some u) : ∀ j (u : Value), ((ins l i x).flatMap enc)[j]? = some u → cur[off + j]? = some u := by
 intro j u hu; rw [qwl hk] at hu; have hlt : ((l.flatMap enc).take (i * k)).length = i * k := by
  rw [List.length_take, qao hk]; have : i * k ≤ l.length * k := Nat.mul_le_mul_right _ hi; omega
 by_cases c1 : j < i * k
 · rw [List.getElem?_append_left (by omega)] at hu
   exact h1 j u hu
 · rw [List.getElem?_append_right (by omega), hlt] at hu
   by_cases c2 : j - i * k < k
   · rw [List.getElem?_append_left (by rw [hk]; exact c2)] at hu
     have := h2 _ u hu; rwa [show i * k + (j - i * k) = j by omega] at this
   · rw [List.getElem?_append_right (by rw [hk]; omega), hk] at hu
     have := h3 _ u hu; rwa [show (i + 1) * k + (j - i * k - k) = j by rw [Nat.succ_mul]; omega] at this
end
section
open Go.RowKit
structure Only (F : Nat → Prop) (w w' : World) : Prop where
 os : w'.os = w.os
 tape : w'.tape = w.tape
 output : w'.output = w.output
 size : w.heap.size ≤ w'.heap.size
 block : ∀ j, j < w.heap.size → ¬ F j → w'.heap[j]? = w.heap[j]?
theorem Only.refl (F : Nat → Prop) (w : World) : Only F w w := ⟨rfl, rfl, rfl, Nat.le_refl _, fun _ _ _ => rfl⟩
theorem Only.trans {F : Nat → Prop} {a b c : World} (h : Only F a b) (k : Only F b c) : Only F a c :=
 ⟨k.os.trans h.os, k.tape.trans h.tape, k.output.trans h.output, Nat.le_trans h.size k.size, fun j hj hn => (k.block j (Nat.lt_of_lt_of_le hj h.size) hn).trans (h.block j hj hn)⟩
theorem Only.of_below {F : Nat → Prop} {w w' : World} (h : Below w.heap.size w w') : Only F w w' := ⟨h.os, h.tape, h.output, h.size, fun j hj _ => h.block j hj⟩
theorem Only.below {F : Nat → Prop} {lo : Nat} {w w' : World} (h : Only F w w') (hF : ∀ j, F j → lo ≤ j) (hlo : lo ≤ w.heap.size) : Below lo w w' :=
 ⟨h.os, h.tape, h.output, h.size, fun j hj => h.block j (Nat.lt_of_lt_of_le hj hlo) fun hf => absurd (hF j hf) (by omega)⟩
theorem Only.grown {F : Nat → Prop} {w w' : World} {row : Option Nat} (h : w.grownBy w' row) (hF : ∀ j, row = some j → F j) : Only F w w' :=
 ⟨h.os, h.tape, h.output, h.size, fun j hj hn => h.block j hj fun hr => hn (hF j hr.symm)⟩
theorem Only.mono {F G : Nat → Prop} {w w' : World} (h : Only F w w') (hFG : ∀ j, F j → G j) : Only G w w' := ⟨h.os, h.tape, h.output, h.size, fun j hj hn => h.block j hj fun hf => hn (hFG j hf)⟩
theorem Only.setCell {F : Nat → Prop} {w w' : World} (h : Only F w w') (p : Addr) (v : Value) (hp : F p.block) : Only F w (w'.setCell p v) :=
 h.trans ⟨rfl, rfl, rfl, by simp, fun j hj hn => Below.heap_setCell _ _ _ _ fun hb => hn (hb ▸ hp)⟩
theorem Own.keep2 {α : Type} {enc : α → List Value} {e : TypeId} {k : Nat} {w w' : World} {lo : Nat} {A : Option Addr} {c : Nat} {l : List α} (h : Own enc e k w lo A c l)
 (hk : c = 0 ∨ ∀ b off, A = some ⟨b, off, none⟩ → b < w.heap.size → w'.heap[b]? = w.heap[b]?) : Own enc e k w' lo A c l := by
 rcases hk with hk | hk
 · exact ⟨h.1, h.2.1, .inl hk⟩
 · exact h.keep fun b off hA _ hlt => hk b off hA hlt
def Lies (F : Nat → Prop) (p : Nat) (A : Option Addr) (c : Nat) : Prop := c = 0 ∨ ∀ b o, A = some ⟨b, o, none⟩ → F b ∧ b ≠ p
theorem Own.row {α : Type} {enc : α → List Value} {e : TypeId} {k : Nat} {w : World} {lo : Nat} {A : Option Addr} {c : Nat} {l : List α} {F : Nat → Prop} {p : Nat} (h : Own enc e k w lo A c l) (hl : Lies F p A c) :
 ∀ j, qa8 A c = some j → F j ∧ j ≠ p := by
 intro j hj; unfold qa8 at hj; split at hj
 · cases hj
 · rcases h.2.2 with h0 | ⟨b, off, cur, rfl, _⟩
   · exact absurd h0 ‹_›
   · rcases hl with hl | hl
     · exact absurd hl ‹_›
     · simp at hj
       subst hj; exact hl b off rfl
theorem qnz {w : World} {p : Addr} {v : Value} (h : w.cell? p = some v) : p.block < w.heap.size := by
 rcases Nat.lt_or_ge p.block w.heap.size with h' | h'
 · exact h'
 · unfold World.cell? at h
   rw [Array.getElem?_eq_none h'] at h; cases h
theorem qaj {w w' : World} {p : Addr} (h : w'.heap[p.block]? = w.heap[p.block]?) : w'.cell? p = w.cell? p := by unfold World.cell?; rw [h]
theorem qbg {w w' : World} {p : Addr} (h : w'.heap[p.block]? = w.heap[p.block]?) : w'.frozen? p = w.frozen? p := by unfold World.frozen?; rw [h]
def upd (lv : Nat → List qa3) (k : Nat) (l : List qa3) : Nat → List qa3 := fun j => if j = k then l else lv j
structure qgc (F : Nat → Prop) (w : World) (ob : Nat) (lv : Nat → List qa3) (A : Nat → Option Addr) (c : Nat → Nat) : Prop where
 cell : ∀ i, i < 4 → w.cell? ⟨ob, i, none⟩ = some (.slice (A i) (lv i).length (c i))
 frz : ∀ i, w.frozen? ⟨ob, i, none⟩ = false
 own : ∀ i, i < 4 → Own qa3.enc 85 5 w 0 (A i) (c i) (lv i)
 lies : ∀ i, i < 4 → Lies F ob (A i) (c i)
 apart : ∀ i j, i < 4 → j < 4 → i ≠ j → ∀ b o o', A i = some ⟨b, o, none⟩ → A j = some ⟨b, o', none⟩ → c i = 0 ∨ c j = 0
def Ord (F : Nat → Prop) (w : World) (ob : Nat) (lv : Nat → List qa3) : Prop := F ob ∧ ∃ A c, qgc F w ob lv A c
theorem qgc.lt {F : Nat → Prop} {w : World} {ob : Nat} {lv : Nat → List qa3} {A : Nat → Option Addr} {c : Nat → Nat} (h : qgc F w ob lv A c) : ob < w.heap.size := qnz (h.cell 0 (by omega))
theorem Ord.lt {F : Nat → Prop} {w : World} {ob : Nat} {lv : Nat → List qa3} (h : Ord F w ob lv) : ob < w.heap.size := by
 obtain ⟨_, A, c, h⟩ := h; exact h.lt
theorem Lies.mono {F G : Nat → Prop} {p : Nat} {A : Option Addr} {c : Nat} (h : Lies F p A c) (hFG : ∀ j, F j → G j) : Lies G p A c := h.imp id fun h b o hA => ⟨hFG b (h b o hA).1, (h b o hA).2⟩
theorem Ord.mono {F G : Nat → Prop} {w : World} {ob : Nat} {lv : Nat → List qa3} (h : Ord F w ob lv) (hFG : ∀ j, F j → G j) : Ord G w ob lv := by
 obtain ⟨h0, A, c, h⟩ := h; exact ⟨hFG _ h0, A, c, h.cell, h.frz, h.own, fun i hi => (h.lies i hi).mono hFG, h.apart⟩
theorem Ord.trim {F : Nat → Prop} {w : World} {ob : Nat} {lv : Nat → List qa3} (h : Ord F w ob lv) : Ord (fun j => F j ∧ j < w.heap.size) w ob lv := by
 have hlt := h.lt; obtain ⟨h0, A, c, h⟩ := h; refine ⟨⟨h0, hlt⟩, A, c, h.cell, h.frz, h.own, fun i hi => ?_, h.apart⟩; rcases (h.own i hi).lt with hc | ⟨b, off, hA, _, hb⟩
 · exact .inl hc
 · rcases h.lies i hi with hl | hl
   · exact .inl hl
   · exact .inr fun b' o' hA' => by
      have := hl b' o' hA'; rw [hA] at hA'; cases hA'
      exact ⟨⟨this.1, hb⟩, this.2⟩
theorem Ord.congr {F : Nat → Prop} {w : World} {ob : Nat} {lv lv' : Nat → List qa3} (h : Ord F w ob lv) (e : ∀ j, j < 4 → lv j = lv' j) : Ord F w ob lv' := by
 obtain ⟨h0, A, c, h⟩ := h; exact ⟨h0, A, c, fun i hi => by rw [← e i hi]; exact h.cell i hi, h.frz, fun i hi => by rw [← e i hi]; exact h.own i hi, h.lies, h.apart⟩
theorem qgc.same {F : Nat → Prop} {w w' : World} {ob : Nat} {lv : Nat → List qa3} {A : Nat → Option Addr} {c : Nat → Nat} (h : qgc F w ob lv A c)
 (h0 : w'.heap[ob]? = w.heap[ob]?) (hr : ∀ i, i < 4 → c i = 0 ∨ ∀ b o, A i = some ⟨b, o, none⟩ → b < w.heap.size → w'.heap[b]? = w.heap[b]?) : qgc F w' ob lv A c :=
 ⟨fun i hi => (qaj h0).trans (h.cell i hi), fun i => (qbg h0).trans (h.frz i), fun i hi => (h.own i hi).keep2 (hr i hi), h.lies, h.apart⟩
theorem qgc.below {F : Nat → Prop} {w w' : World} {ob : Nat} {lv : Nat → List qa3} {A : Nat → Option Addr} {c : Nat → Nat} (h : qgc F w ob lv A c) (hb : Below w.heap.size w w') : qgc F w' ob lv A c :=
 h.same (hb.block ob h.lt) fun _ _ => .inr fun b _ _ hlt => hb.block b hlt
theorem Ord.below {F : Nat → Prop} {w w' : World} {ob : Nat} {lv : Nat → List qa3} (h : Ord F w ob lv) (hb : Below w.heap.size w w') : Ord F w' ob lv := by
 obtain ⟨h0, A, c, h⟩ := h; exact ⟨h0, A, c, h.below hb⟩
theorem Ord.only {F G : Nat → Prop} {w w' : World} {ob : Nat} {lv : Nat → List qa3} (h : Ord F w ob lv) (ho : Only G w w') (hG : ∀ j, F j → ¬ G j) : Ord F w' ob lv := by
 have hlt := h.lt; obtain ⟨h0, A, c, h⟩ := h; refine ⟨h0, A, c, h.same (ho.block ob hlt (hG ob h0)) fun i hi => (h.lies i hi).imp id fun hl b o hA hb => ho.block b hb (hG b (hl b o hA).1)⟩
theorem qgc.put {F : Nat → Prop} {w W w3 : World} {ob k : Nat} {lv : Nat → List qa3} {A : Nat → Option Addr} {c : Nat → Nat} (h : qgc F w ob lv A c) (h0 : F ob) (hk : k < 4) (hF : ∀ j, w.heap.size ≤ j → F j)
 (hW : Below w.heap.size w W) (hgr : W.grownBy w3 (qa8 (A k) (c k))) {A' : Option Addr} {c' n : Nat} {l' : List qa3} (hown : Own qa3.enc 85 5 w3 0 A' c' l') (hn : n = l'.length)
 (hloc : A' = A k ∧ c' = c k ∨ ∃ g, A' = some ⟨g, 0, none⟩ ∧ W.heap.size ≤ g) :
 Ord F (w3.setCell ⟨ob, k, none⟩ (.slice A' n c')) ob (upd lv k l') ∧ Only F w (w3.setCell ⟨ob, k, none⟩ (.slice A' n c')) := by
 subst hn; have hob := h.lt; have hWs := hW.size; have hrow := (h.own k hk).row (h.lies k hk); have hon : Only F w w3 := (Only.of_below hW).trans (Only.grown hgr fun j hj => (hrow j hj).1); have hb3 : w3.heap[ob]? = w.heap[ob]? := (hgr.block ob (by omega) fun hr => (hrow ob hr.symm).2 rfl).trans (hW.block ob hob); have hlies : Lies F ob A' c' := by
  rcases hloc with ⟨rfl, rfl⟩ | ⟨g, rfl, hg⟩
  · exact h.lies k hk
  · exact .inr fun b o hA => by cases hA; exact ⟨hF _ (by omega), by omega⟩
 have hoth : ∀ i, i < 4 → i ≠ k → c i = 0 ∨ ∀ b o, A i = some ⟨b, o, none⟩ → b < w.heap.size → w3.heap[b]? = w.heap[b]? := by
  intro i hi hik; by_cases hc0 : c i = 0
  · exact .inl hc0
  refine .inr fun b o hA hlt => (hgr.block b (by omega) fun hr => ?_).trans (hW.block b hlt)
  unfold qa8 at hr; split at hr
  · cases hr
  · rename_i hck
    rcases (h.own k hk).2.2 with h0 | ⟨b', off', _, hAk, _⟩
    · exact hck h0
    · rw [hAk] at hr
      simp at hr; subst hr; rcases h.apart i k hi hk hik b o off' hA hAk with h | h
      · exact hc0 h
      · exact hck h
 have hset : ∀ b, b ≠ ob → (w3.setCell ⟨ob, k, none⟩ (.slice A' l'.length c')).heap[b]? = w3.heap[b]? := fun b hb => Below.heap_setCell _ _ _ _ hb
 refine ⟨⟨h0, fun j => if j = k then A' else A j, fun j => if j = k then c' else c j, ?_, ?_, ?_, ?_, ?_⟩, hon.setCell _ _ h0⟩
 · intro i hi
   by_cases hik : i = k
   · subst hik
     simp only [upd, if_pos]; exact World.cell?_setCell_same _ _ _ ((qaj (p := ⟨ob, i, none⟩) hb3).trans (h.cell i hi))
   · simp only [upd, if_neg hik]
     rw [World.cell?_setCell_other _ _ _ _ (by intro e; injection e with _ e; exact hik e.symm)]; exact (qaj (p := ⟨ob, i, none⟩) hb3).trans (h.cell i hi)
 · intro i
   rw [World.frozen?_setCell]; exact (qbg (p := ⟨ob, i, none⟩) hb3).trans (h.frz i)
 · intro i hi
   by_cases hik : i = k
   · subst hik
     simp only [upd, if_pos]; exact hown.keep2 (hlies.imp id fun h b o hA _ => hset b (h b o hA).2)
   · simp only [upd, if_neg hik]
     refine Own.keep2 ((h.own i hi).keep2 (w' := w3) (hoth i hi hik)) ((h.lies i hi).imp id fun h b o hA _ => hset b (h b o hA).2)
 · intro i hi
   by_cases hik : i = k
   · simp only [if_pos hik]; exact hlies
   · simp only [if_neg hik]; exact h.lies i hi
 · have key : ∀ i, i < 4 → i ≠ k → ∀ b o o', A i = some ⟨b, o, none⟩ → A' = some ⟨b, o', none⟩ → c i = 0 ∨ c' = 0 := by
    intro i hi hik b o o' hA hA'; rcases hloc with ⟨rfl, rfl⟩ | ⟨g, rfl, hg⟩
    · exact h.apart i k hi hk hik b o o' hA hA'
    · cases hA'
      rcases (h.own i hi).lt with hc | ⟨b2, o2, hA2, _, hlt⟩
      · exact .inl hc
      · rw [hA] at hA2
        cases hA2
        omega
   intro i j hi hj hij b o o' hAi hAj; by_cases hik : i = k
   · have hjk : j ≠ k := fun e => hij (hik.trans e.symm)
     simp only [if_pos hik, if_neg hjk] at hAi hAj ⊢; exact (key j hj hjk b o' o hAj hAi).symm
   · by_cases hjk : j = k
     · simp only [if_neg hik, if_pos hjk] at hAi hAj ⊢
       exact key i hi hik b o o' hAi hAj
     · simp only [if_neg hik, if_neg hjk] at hAi hAj ⊢
       exact h.apart i j hi hj hij b o o' hAi hAj
theorem qgc.put2 {F : Nat → Prop} {w w3 : World} {ob k : Nat} {lv : Nat → List qa3} {A : Nat → Option Addr} {c : Nat → Nat} (h : qgc F w ob lv A c) (h0 : F ob) (hk : k < 4)
 (hgr : w.grownBy w3 (qa8 (A k) (c k))) {l' : List qa3} (hown : Own qa3.enc 85 5 w3 0 (A k) (c k) l') (hn : l'.length = (lv k).length) :
 Ord F w3 ob (upd lv k l') ∧ Only F w w3 := by
 have hob := h.lt; have hrow := (h.own k hk).row (h.lies k hk); have hon : Only F w w3 := Only.grown hgr fun j hj => (hrow j hj).1
 have hb3 : w3.heap[ob]? = w.heap[ob]? := hgr.block ob hob fun hr => (hrow ob hr.symm).2 rfl
 refine ⟨⟨h0, A, c, ?_, ?_, ?_, h.lies, h.apart⟩, hon⟩
 · intro i hi
   have := (qaj (p := ⟨ob, i, none⟩) hb3).trans (h.cell i hi); by_cases hik : i = k
   · subst hik
     rw [this, upd, if_pos rfl, hn]
   · rw [this, upd, if_neg hik]
 · exact fun i => (qbg (p := ⟨ob, i, none⟩) hb3).trans (h.frz i)
 · intro i hi
   by_cases hik : i = k
   · subst hik
     rw [upd, if_pos rfl]; exact hown
   · rw [upd, if_neg hik]
     refine (h.own i hi).keep2 ?_; by_cases hc0 : c i = 0
     · exact .inl hc0
     refine .inr fun b o hA hlt => hgr.block b hlt fun hr => ?_
     unfold qa8 at hr; split at hr
     · cases hr
     · rename_i hck
       rcases (h.own k hk).2.2 with h0 | ⟨b', off', _, hAk, _⟩
       · exact hck h0
       · rw [hAk] at hr
         simp at hr; subst hr; rcases h.apart i k hi hk hik b o off' hA hAk with h | h
         · exact hc0 h
         · exact hck h
end
section
open Go.RowKit Go.MapKept
open Go.ChangeMaps (setBlock)
def qd0 (L : List qa3) (key : ByteArray) : Option qa3 := L.find? fun x => decide (x.key = key)
structure MpL (es : Array MapEntry) (clock : Nat) (L : List qa3) : Prop where
 st : Stamped es clock
 len : es.size = L.length
 row : ∀ j (h : j < L.length), ∃ e, es[j]? = some e ∧ e.key = .string L[j].key ∧ e.val = L[j].val
section
variable {es : Array MapEntry} {clock r : Nat} {L : List qa3} {w : World} {key : ByteArray}
theorem MpL.nil : MpL #[] 0 [] := ⟨stamped_empty 0, rfl, fun j h => absurd h (by simp)⟩
theorem MpL.isKey (h : MpL es clock L) : ∀ e ∈ es.toList, IsKey .string e.key := by
 intro e he; obtain ⟨j, hj, rfl⟩ := List.getElem_of_mem he; have hl : j < L.length := by rw [← h.len]; simpa using hj
 obtain ⟨e', h1, h2, _⟩ := h.row j hl; have : es.toList[j] = e' := by
  have := Array.getElem?_eq_some_iff.1 h1; simpa using this.2
 rw [this, h2]; trivial
theorem MpL.keys (h : MpL es clock L) : es.toList.map (·.key) = L.map fun x => Value.string x.key := by
 apply List.ext_getElem?; intro j; rw [List.getElem?_map, List.getElem?_map, Array.getElem?_toList]; by_cases hj : j < L.length
 · obtain ⟨e, h1, h2, _⟩ := h.row j hj
   rw [h1, List.getElem?_eq_getElem hj]; simp [h2]
 · rw [List.getElem?_eq_none (by omega), Array.getElem?_eq_none (by rw [h.len]; omega)]
   rfl
theorem MpL.nodup (h : MpL es clock L) : (L.map (·.key)).Nodup := by
 have h3 := h.st.2.2; rw [h.keys, List.Nodup, List.pairwise_map] at h3; rw [List.Nodup, List.pairwise_map]; exact h3.imp fun hab he => hab (by rw [he])
theorem MpL.uniq (h : MpL es clock L) {i j : Nat} (hi : i < L.length) (hj : j < L.length) (he : L[i].key = L[j].key) : i = j := by
 have hn := List.pairwise_iff_getElem.1 h.nodup; rcases Nat.lt_trichotomy i j with hlt | rfl | hlt
 · exact (hn i j (by simpa using hi) (by simpa using hj) hlt (by simp only [List.getElem_map]; exact he)).elim
 · rfl
 · exact (hn j i (by simpa using hj) (by simpa using hi) hlt (by simp only [List.getElem_map]; exact he.symm)).elim
theorem MpL.miss (h : MpL es clock L) (h2 : ∀ e ∈ es.toList, e.key ≠ .string key) : qd0 L key = none := by
 refine List.find?_eq_none.2 fun x hx => ?_
 obtain ⟨j, hj, rfl⟩ := List.getElem_of_mem hx; obtain ⟨e, h1, h3, _⟩ := h.row j hj; have := h2 e (by have := Array.mem_of_getElem? h1; simpa using this); intro hk; exact this (by rw [h3]; simp at hk; rw [hk])
theorem MpL.hit (h : MpL es clock L) {j : Nat} {e : MapEntry} (h2 : es.toList[j]? = some e) (h3 : e.key = .string key) : ∃ hj : j < L.length, L[j].key = key ∧ e.val = L[j].val ∧ qd0 L key = some L[j] := by
 have hj : j < L.length := by
  have := (List.getElem?_eq_some_iff.1 h2).1; rw [← h.len]; simpa using this
 obtain ⟨e', h4, h5, h6⟩ := h.row j hj; have : e = e' := by rw [Array.getElem?_toList] at h2; exact Option.some.inj (h2.symm.trans h4)
 subst this; have hk : L[j].key = key := by rw [h3] at h5; injection h5 with h5; exact h5.symm
 refine ⟨hj, hk, h6, ?_⟩; refine List.find?_eq_some_iff_getElem.2 ⟨by simpa using hk, j, hj, rfl, fun i hi => ?_⟩; simp only [Bool.not_eq_eq_eq_not, Bool.not_true, decide_eq_false_iff_not]; intro he; have := h.uniq (by omega) hj (he.trans hk.symm); omega
def MapL (w : World) (r : Nat) (L : List qa3) : Prop := ∃ es clock, w.heap[r]? = some (.map es clock) ∧ MpL es clock L
theorem MapL.lt (h : MapL w r L) : r < w.heap.size := by
 obtain ⟨es, clock, h1, _⟩ := h; exact (Array.getElem?_eq_some_iff.1 h1).1
theorem MapL.same {w' : World} (h : MapL w r L) (hb : w'.heap[r]? = w.heap[r]?) : MapL w' r L := by
 obtain ⟨es, clock, h1, h2⟩ := h; exact ⟨es, clock, hb.trans h1, h2⟩
theorem MapL.nodup (h : MapL w r L) : (L.map (·.key)).Nodup := h.choose_spec.choose_spec.2.nodup
theorem qk6 (h : MapL w r L) (key : ByteArray) : (Instr.lookup 195 (.map (some r)) (.string key) true).run prog w = .ok (.tuple #[((qd0 L key).getD qak).val, .bool (qd0 L key).isSome]) w := by
 obtain ⟨es, clock, hb, hm⟩ := h; have ht : prog.underlying 195 = some (.map 9 85) := underlying195; have hs : prog.underlying 9 = some .string := underlying9; rcases findNow_spec (d := .string) (k := .string key) trivial es.toList 0 hm.isKey with ⟨h1, h2⟩ | ⟨j, e, h1, h2, h3⟩
 · rw [hm.miss h2]
   simp [Instr.lookup, run_underlying ht, MapKept.run_getObj_map hb, run_checkKey hs (k := .string key) trivial, run_findKey hs h1, Result.andThen]; rfl
 · obtain ⟨hj, hk, hv, hl⟩ := hm.hit h2 h3
   rw [hl]; simp [Instr.lookup, run_underlying ht, MapKept.run_getObj_map hb, run_checkKey hs (k := .string key) trivial, run_findKey hs h1, hv, Result.andThen]
theorem qw6 (h : MapL w r L) (key : ByteArray) : (Instr.lookup 195 (.map (some r)) (.string key) false).run prog w = .ok ((qd0 L key).getD qak).val w := by
 obtain ⟨es, clock, hb, hm⟩ := h; have ht : prog.underlying 195 = some (.map 9 85) := underlying195; have hs : prog.underlying 9 = some .string := underlying9; rcases findNow_spec (d := .string) (k := .string key) trivial es.toList 0 hm.isKey with ⟨h1, h2⟩ | ⟨j, e, h1, h2, h3⟩
 · rw [hm.miss h2]
   simp [Instr.lookup, run_underlying ht, MapKept.run_getObj_map hb, run_checkKey hs (k := .string key) trivial, run_findKey hs h1, Result.andThen]; rfl
 · obtain ⟨hj, hk, hv, hl⟩ := hm.hit h2 h3
   rw [hl]; simp [Instr.lookup, run_underlying ht, MapKept.run_getObj_map hb, run_checkKey hs (k := .string key) trivial, run_findKey hs h1, hv, Result.andThen]
def setM (L : List qa3) (x : qa3) : List qa3 := match L.findIdx? fun y => decide (y.key = x.key) with | some j => L.set j x | none => L ++ [x]
def delM (L : List qa3) (key : ByteArray) : List qa3 := match L.findIdx? fun y => decide (y.key = key) with | some j => L.eraseIdx j | none => L
theorem MpL.idx (h : MpL es clock L) {j : Nat} (hj : j < L.length) (hk : L[j].key = key) : L.findIdx? (fun y => decide (y.key = key)) = some j := by
 rw [List.findIdx?_eq_some_iff_getElem]; refine ⟨hj, by simpa using hk, fun i hi => ?_⟩; simp only [Bool.not_eq_true, decide_eq_false_iff_not]; intro he; have := h.uniq (by omega) hj (he.trans hk.symm); omega
theorem qp4 (h : qd0 L key = none) : L.findIdx? (fun y => decide (y.key = key)) = none := by
 rw [List.findIdx?_eq_none_iff]; intro x hx; have := List.find?_eq_none.1 h x hx; simpa using this
theorem qe8 {w : World} {r : Nat} {o o' : Obj} (hb : w.heap[r]? = some o) : w.grownBy (setBlock w r o') (some r) :=
 ⟨rfl, rfl, rfl, by simp [setBlock], fun i _ hne => (MapKept.heap_set hb).2 i fun h => hne (by rw [h])⟩
theorem qA8 (h : MapL w r L) (x : qa3) : ∃ w' : World, (Instr.mapUpdate 195 (.map (some r)) (.string x.key) x.val).run prog w = .ok () w' ∧ MapL w' r (setM L x) ∧ w.grownBy w' (some r) ∧ w'.heap.size = w.heap.size := by
 obtain ⟨es, clock, hb, hm⟩ := h; have ht : prog.underlying 195 = some (.map 9 85) := underlying195; have hs : prog.underlying 9 = some .string := underlying9; rcases findNow_spec (d := .string) (k := .string x.key) trivial es.toList 0 hm.isKey with ⟨h1, h2⟩ | ⟨j, e, h1, h2, h3⟩
 · refine ⟨setBlock w r (.map (es.push { key := .string x.key, val := x.val, born := clock }) (clock + 1)), ?_, ⟨_, _, (heap_set hb).1, ?_⟩, qe8 hb, by simp [setBlock]⟩
   · simp [Instr.mapUpdate, run_underlying ht, MapKept.run_getObj_map hb, run_checkKey hs (k := .string x.key) trivial, run_findKey hs h1, MapKept.run_setObj_map _ hb, Result.andThen, setBlock]
   · have hn := hm.miss h2
     rw [setM, qp4 hn]; refine ⟨stamped_push hm.st h2, by simp [hm.len], fun i hi => ?_⟩; simp only [List.length_append, List.length_cons, List.length_nil] at hi; rcases (by omega : i < L.length ∨ i = L.length) with hl | rfl
     · obtain ⟨e', q1, q2, q3⟩ := hm.row i hl
       refine ⟨e', ?_, ?_, ?_⟩
       · rw [Array.getElem?_push, if_neg (by rw [hm.len]; omega)]; exact q1
       · rw [List.getElem_append_left hl]; exact q2
       · rw [List.getElem_append_left hl]; exact q3
     · refine ⟨_, by rw [← hm.len]; exact Array.getElem?_push_size, ?_, ?_⟩
       · simp
       · simp
 · obtain ⟨hj, hk, hv, hl⟩ := hm.hit h2 h3
   have hje : es[j]? = some e := by simpa using h2
   refine ⟨setBlock w r (.map (es.modify j fun e => { e with key := .string x.key, val := x.val }) clock), ?_, ⟨_, _, (heap_set hb).1, ?_⟩, qe8 hb, by simp [setBlock]⟩
   · simp [Instr.mapUpdate, run_underlying ht, MapKept.run_getObj_map hb, run_checkKey hs (k := .string x.key) trivial, run_findKey hs h1, hje, h3, run_keyThatStays (d := .string) (k := .string x.key) trivial, MapKept.run_setObj_map _ hb, Result.andThen, setBlock]
   · rw [setM, hm.idx hj hk]
     refine ⟨stamped_modify hm.st _ _ (fun _ _ => rfl) (fun e' _ he' => by rw [hje] at he'; cases he'; exact h3.symm), by simp [hm.len], fun i hi => ?_⟩; simp only [List.length_set] at hi; obtain ⟨e', q1, q2, q3⟩ := hm.row i hi; by_cases hij : j = i
     · subst hij
       refine ⟨{ e with key := .string x.key, val := x.val }, ?_, ?_, ?_⟩
       · rw [Array.getElem?_modify, if_pos rfl, hje]; rfl
       · simp
       · simp
     · refine ⟨e', ?_, ?_, ?_⟩
       · rw [Array.getElem?_modify, if_neg hij]; exact q1
       · rw [List.getElem_set_ne hij]; exact q2
       · rw [List.getElem_set_ne hij]; exact q3
theorem qB1 (h : MapL w r L) (key : ByteArray) (ty : TypeId) : ∃ w' : World, (Builtin.delete_ #[195, 9] ty #[.map (some r), .string key]).run prog w = .ok (.tuple #[]) w' ∧ MapL w' r (delM L key) ∧ w.grownBy w' (some r) ∧ w'.heap.size = w.heap.size := by
 obtain ⟨es, clock, hb, hm⟩ := h; have ht : prog.underlying 195 = some (.map 9 85) := underlying195; have hs : prog.underlying 9 = some .string := underlying9; rcases findNow_spec (d := .string) (k := .string key) trivial es.toList 0 hm.isKey with ⟨h1, h2⟩ | ⟨j, e, h1, h2, h3⟩
 · refine ⟨setBlock w r (.map es clock), ?_, ⟨_, _, (heap_set hb).1, ?_⟩, qe8 hb, by simp [setBlock]⟩
   · simp [Builtin.delete_, run_underlying ht, MapKept.run_getObj_map hb, run_checkKey hs (k := .string key) trivial, run_findKey hs h1, MapKept.run_setObj_map _ hb, Result.andThen, setBlock]
   · rw [delM, qp4 (hm.miss h2)]
     exact hm
 · obtain ⟨hj, hk, hv, hl⟩ := hm.hit h2 h3
   have hjs : j < es.size := by rw [hm.len]; exact hj
   refine ⟨setBlock w r (.map (es.eraseIdxIfInBounds j) clock), ?_, ⟨_, _, (heap_set hb).1, ?_⟩, qe8 hb, by simp [setBlock]⟩
   · simp [Builtin.delete_, run_underlying ht, MapKept.run_getObj_map hb, run_checkKey hs (k := .string key) trivial, run_findKey hs h1, MapKept.run_setObj_map _ hb, Result.andThen, setBlock]
   · rw [delM, hm.idx hj hk]
     have he : es.eraseIdxIfInBounds j = es.eraseIdx j hjs := by simp [Array.eraseIdxIfInBounds, hjs]
     refine ⟨stamped_erase hm.st _, by rw [he]; simp [hm.len, List.length_eraseIdx, hj], fun i hi => ?_⟩; rw [List.length_eraseIdx, if_pos hj] at hi; rw [he, ← Array.getElem?_toList, Array.toList_eraseIdx, List.getElem?_eraseIdx]; by_cases hij : i < j
     · obtain ⟨e', q1, q2, q3⟩ := hm.row i (by omega)
       refine ⟨e', by rw [if_pos hij, Array.getElem?_toList]; exact q1, ?_, ?_⟩
       · rw [List.getElem_eraseIdx, dif_pos hij]; exact q2
       · rw [List.getElem_eraseIdx, dif_pos hij]; exact q3
     · obtain ⟨e', q1, q2, q3⟩ := hm.row (i + 1) (by omega)
       refine ⟨e', by rw [if_neg hij, Array.getElem?_toList]; exact q1, ?_, ?_⟩
       · rw [List.getElem_eraseIdx, dif_neg hij]; exact q2
       · rw [List.getElem_eraseIdx, dif_neg hij]; exact q3
end
end
section
open Go.RowKit
theorem qdp {P : Program} {fn : Func} {p t : Tmp} {ty : TypeId} (h : fn.results = #[.cell p ty, .tmp t]) (tmps : Array Value) (w : World) (b : Nat) (cs : List Value) (d : TypeDesc)
 (hp : tmps.getD p undef = .pointer (some ⟨b, 0, none⟩)) (hc : w.rangeAt b 0 cs) (hu : P.underlying ty = some d) (hd : d.isRow = true) (hi : (P.info? ty).map (·.size) = some cs.length) : (results fn tmps).run P w = .ok (.tuple #[.agg cs.toArray, tmps.getD t undef]) w := by
 have hp' : tmps[p]?.getD undef = .pointer (some ⟨b, 0, none⟩) := by simpa using hp
 simp [results, h, hp', asAddr, run_loadVar_mid w b 0 ty cs d hc hu hd hi, Result.andThen]
theorem qb5 {w : World} {b : Nat} {cs : List Value} {t : TypeId} (h : w.heap[b]? = some (.cells cs.toArray t (0, 0))) : w.rangeAt b 0 cs := fun j v hv => by
 rw [Nat.zero_add, cell_of_row w b j _ _ _ h, List.getElem?_toArray]
 exact hv
theorem qsl : (prog.info? 85).map (·.size) = some 5 := by kernel_rfl
theorem qw8 : ∃ d, prog.underlying 85 = some d ∧ d.isRow = true := ⟨_, underlying85, rfl⟩
theorem qdq {fn : Func} {p t : Tmp} (h : fn.results = #[.cell p 85, .tmp t]) (tmps : Array Value) (w : World) (b : Nat) (x : qa3) (v : Value) (hp : tmps.getD p undef = .pointer (some ⟨b, 0, none⟩)) (ht : tmps.getD t undef = v)
 (hb : w.heap[b]? = some (.cells x.enc.toArray 85 (0, 0))) : (results fn tmps).run prog w = .ok (.tuple #[x.val, v]) w := by
 obtain ⟨d, h1, h2⟩ := qw8; rw [qdp h tmps w b x.enc d hp (qb5 hb) h1 h2 qsl, ht]; rfl
theorem qB3 {w : World} {b : Nat} {t : TypeId} {a c d e f a' c' d' e' f' : Value} (h : w.heap[b]? = some (.cells #[a, c, d, e, f] t (0, 0))) : (((((w.setCell ⟨b, 0, none⟩ a').setCell ⟨b, 1, none⟩ c').setCell ⟨b, 2, none⟩ d').setCell ⟨b, 3, none⟩ e').setCell ⟨b, 4, none⟩ f').heap[b]? = some (.cells #[a', c', d', e', f'] t (0, 0)) :=
 heap_setCell_same _ b 4 _ _ f' (heap_setCell_same _ b 3 _ _ e' (heap_setCell_same _ b 2 _ _ d' (heap_setCell_same _ b 1 _ _ c' (heap_setCell_same w b 0 _ _ a' h))))
theorem box5 {w : World} {b : Nat} {t : TypeId} {y x : qa3} (h : w.heap[b]? = some (.cells y.enc.toArray t (0, 0))) : (w.setCells b 0 x.enc).heap[b]? = some (.cells x.enc.toArray t (0, 0)) :=
 qB3 (a := .string y.key) (c := .int .u64 (y.id : Int)) (d := .int .u64 (y.ver : Int)) (e := .int .i64 y.line) (f := .int .i64 y.cls) h
end
section
open Go.RowKit
def qux {α : Type} (enc : α → List Value) (ty k : Nat) (l : List α) (w : World) (e : Ending) (w' : World) : Prop :=
 ∃ A c, e = .returned (.slice A l.length c) ∧ Own enc ty k w' w.heap.size A c l ∧ Below w.heap.size w w'
theorem qa7.enc_one (x : qa7) : ∀ u ∈ x.enc, u.oneCell' = true := by
 intro u hu; simp only [qa7.enc, List.mem_cons, List.not_mem_nil, or_false] at hu; rcases hu with rfl | rfl | rfl | rfl | rfl <;> rfl
theorem qlo : (prog.info? 40).map (fun i => (i.zero, i.size, i.bytes)) = some (some (.agg #[.int .i64 0, .string ByteArray.empty, .string ByteArray.empty, .string ByteArray.empty, .slice none 0 0]), 5, 80) := by kernel_rfl
theorem qxb {ops : Array Oper} {rest : List Oper} {o : Oper} {a : Act} {Q : Exit → Act → World → Prop} (w : World) (hgd : o.guard = none) (s x : Operand)
 (ho : o.op = .call { callee := .builtin .append, args := #[s, x], argTypes := #[38, 38] }) {lo : Nat} {A : Option Addr} {c : Nat} {l : List qa7} (hs : a.eval s = .slice A l.length c) (own : Own qa7.enc 40 5 w lo A c l)
 {B : Nat} {A2 : Option Addr} {m : List qa7} (c2 : Nat) (hx : a.eval x = .slice A2 m.length c2) (arr : Arr qa7.enc 5 w B A2 m) (hb : l.length + m.length ≤ 1000000) (hlo : lo ≤ w.heap.size)
 (h : ∀ A' c' w', Own qa7.enc 40 5 w' lo A' c' (l ++ m) → w.grownBy w' (qa8 A c) → (A' = A ∧ c' = c ∨ ∃ g, A' = some ⟨g, 0, none⟩ ∧ w.heap.size ≤ g) → wpList prog ops Q rest (a.put o.dst (.slice A' (l.length + m.length) c')) w') :
 wpList prog ops Q (o :: rest) a w := by
 obtain ⟨i0, hi, hz0, hz1, hz2⟩ := info_parts qlo; exact qar w hgd s x 38 ho i0 _ 80 underlying38 hi hz0 hz1 hz2 rfl (by decide) qa7.enc_len qa7.enc_one hs own c2 hx arr (by unfold maxLen; omega) (by omega) hlo h
theorem qhx (l : List qa7) (A : Option Addr) (c : Nat) (w : World) (hA : Arr qa7.enc 5 w w.heap.size A l) (hc : l.length ≤ c) (_hm : c ≤ 9223372036854775807) (hb : l.length ≤ 1000000) :
 Calls prog 65 #[.slice A l.length c] w (qux qa7.enc 40 5 l w) := by
 have HB := hid hb; clear hb; have hnil := fun W : World => Lib.run_eql_slice_nil (P := prog) W 38 40 A l.length c 0 0 underlying38
 cases A with
 | none =>
  go_enter func65, ntmps65; go_wp2; go_ret; have hl : l = [] := by
   rcases hA with h | ⟨b, off, h, _⟩
   · exact h
   · cases h
  subst hl; exact ⟨none, 0, rfl, Own.none_, Below.refl _ _⟩
 | some a =>
  go_enter func65, ntmps65; go_wp2_with (at_builtin; refine qxb (l := []) (m := l) _ rfl (.tmp 5) (.tmp 6) rfl rfl (Own.zero (lo := w.heap.size)) c rfl (hA.below ((Below.refl _ w).alloc (Nat.le_refl _) _)) (by simpa using HB.out) (by simp) ?_; intro A' c' w' hown hgr hloc); go_ret; refine ⟨A', c', by simp, by simpa using hown, ((Below.refl _ w).alloc (Nat.le_refl _) _).grown hgr (by simp) (fun k hk => ?_)⟩; simp [qa8] at hk
structure CSim (x y : qa7) : Prop where
 kind : x.kind = y.kind
 key : x.key = y.key
 val : x.val = y.val
 to' : x.tx = y.tx
 gn : x.gn = y.gn
theorem CSim.refl (x : qa7) : CSim x x := ⟨rfl, rfl, rfl, rfl, rfl⟩
end
section
open Go.RowKit
def Sl {α : Type} (enc : α → List Value) (k : Nat) (w : World) (B : Nat) (A : Option Addr) (n c : Nat) (l : List α) : Prop := Arr enc k w B A l ∧ n = l.length ∧ l.length ≤ c ∧ c ≤ 9223372036854775807
section
variable {α : Type} {enc : α → List Value} {k : Nat} {w w' : World} {B : Nat} {A : Option Addr} {n c : Nat} {l : List α}
theorem Sl.nil : Sl enc k w B A 0 0 [] := ⟨Arr.nil, rfl, Nat.le_refl _, by simp⟩
theorem Sl.below (h : Sl enc k w B A n c l) (hb : Below B w w') : Sl enc k w' B A n c l := ⟨h.1.below hb, h.2⟩
theorem Sl.more {B' : Nat} (h : Sl enc k w B A n c l) (hB : B ≤ B') : Sl enc k w B' A n c l := ⟨h.1.more hB, h.2⟩
theorem Sl.of_own {e : TypeId} {lo : Nat} (hk : ∀ x, (enc x).length = k) (h : Own enc e k w lo A c l) : Sl enc k w w.heap.size A l.length c l := ⟨h.arr hk, rfl, h.len, h.max⟩
end
structure qas where
 had : Bool
 old : qa3
 line : Int
 cls : Int
def qas.enc (x : qas) : List Value := [.bool x.had, .string x.old.key, .int .u64 (x.old.id : Int), .int .u64 (x.old.ver : Int), .int .i64 x.old.line, .int .i64 x.old.cls, .int .i64 x.line, .int .i64 x.cls]
theorem qas.enc_len (x : qas) : x.enc.length = 8 := rfl
theorem qas.enc_one (x : qas) : ∀ u ∈ x.enc, u.oneCell' = true := by
 intro u hu; simp only [qas.enc, List.mem_cons, List.not_mem_nil, or_false] at hu; rcases hu with rfl | rfl | rfl | rfl | rfl | rfl | rfl | rfl <;> rfl
def qAa : qas := ⟨false, qak, 0, 0⟩
def bitE (x : Bool) : List Value := [.bool x]
theorem qfd (x : Bool) : (bitE x).length = 1 := rfl
theorem qx7 (x : Bool) : ∀ u ∈ bitE x, u.oneCell' = true := by intro u hu; simp [bitE] at hu; subst hu; rfl
structure qa5 where
 call : qa7
 phase : Int
 ep : Nat
 pos : ByteArray
 past : Bool
 level : Int
 had : Bool
 old : qa3
 line : Int
 cls : Int
 piece : Int
 bA : Option Addr
 bn : Nat
 bc : Nat
 at' : Int
 pA : Option Addr
 pn : Nat
 pc : Nat
 code : Int
 found : Bool
 vl : ByteArray
 hA : Option Addr
 hn : Nat
 hc : Nat
 aep : Nat
def qa5.enc (f : qa5) : List Value :=
 [.int .i64 f.call.kind, .string f.call.key, .string f.call.val, .string f.call.tx, .slice f.call.gA f.call.gn f.call.gc, .int .i64 f.phase, .int .u64 (f.ep : Int), .string f.pos, .bool f.past, .int .i64 f.level, .bool f.had,
  .string f.old.key, .int .u64 (f.old.id : Int), .int .u64 (f.old.ver : Int), .int .i64 f.old.line, .int .i64 f.old.cls, .int .i64 f.line, .int .i64 f.cls, .int .i64 f.piece, .slice f.bA f.bn f.bc, .int .i64 f.at', .slice f.pA f.pn f.pc,
  .int .i64 f.code, .bool f.found, .string f.vl, .slice none 0 0, .slice f.hA f.hn f.hc, .int .u64 (f.aep : Int)]
theorem qa5.enc_len (f : qa5) : f.enc.length = 28 := rfl
theorem qa5.enc_one (f : qa5) : ∀ v ∈ f.enc, v.oneCell' = true := by
 intro v hv; simp only [qa5.enc, List.mem_cons, List.not_mem_nil, or_false] at hv; rcases hv with rfl | rfl | rfl | rfl | rfl | rfl | rfl | rfl | rfl | rfl | rfl | rfl | rfl | rfl | rfl | rfl | rfl | rfl | rfl | rfl | rfl | rfl | rfl | rfl | rfl | rfl | rfl | rfl <;> rfl
def qa5.v (f : qa5) : Value := .agg f.enc.toArray
structure qbt (w : World) (B : Nat) (f : qa5) (g : List qa7) (bs : List UInt8) (ps : List qas) (hs : List Bool) : Prop where
 grp : Sl qa7.enc 5 w B f.call.gA f.call.gn f.call.gc g
 bytes : Sl byE 1 w B f.bA f.bn f.bc bs
 parts : Sl qas.enc 8 w B f.pA f.pn f.pc ps
 hits : Sl bitE 1 w B f.hA f.hn f.hc hs
theorem qbt.below {w w' : World} {B : Nat} {f : qa5} {g : List qa7} {bs : List UInt8} {ps : List qas} {hs : List Bool} (h : qbt w B f g bs ps hs) (hb : Below B w w') : qbt w' B f g bs ps hs := ⟨h.1.below hb, h.2.below hb, h.3.below hb, h.4.below hb⟩
theorem qbt.more {w : World} {B B' : Nat} {f : qa5} {g : List qa7} {bs : List UInt8} {ps : List qas} {hs : List Bool} (h : qbt w B f g bs ps hs) (hB : B ≤ B') : qbt w B' f g bs ps hs := ⟨h.1.more hB, h.2.more hB, h.3.more hB, h.4.more hB⟩
end
end Go.Proofs.YtecikkjbnkhhkaaGreat
