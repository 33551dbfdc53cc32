/- A store and an answer in variables of the program's own: what may be written, and what stays. -/
import Derived.Test.YtamcehfcjcmpmaaDoorIdl8
import Derived.Test.YtamcehfcjcmpmaaDoorIdl2
namespace Go.Proofs.YtamcehfcjcmpmaaDoor
open Go.RowKit

def bit (b : Bool) : List Value := [.bool b]
theorem bit_len (b : Bool) : (bit b).length = 1 := rfl
theorem bit_one (b : Bool) : ∀ u ∈ bit b, u.oneCell' = true := by intro u hu; simp [bit] at hu; subst hu; rfl
theorem info_bool : (Tryd.prog.info? 4).map (fun i => (i.zero, i.size, i.bytes)) = some (some (.bool false), 1, 1) := by kernel_rfl
theorem app_bit {ops : Array Oper} {rest : List Oper} {o : Oper} {a : Act} {Q : Exit → Act → World → Prop} (w : World) (hgd : o.guard = none) (s x : Operand)
    (ho : o.op = .call { callee := .builtin .append, args := #[s, x], argTypes := #[37, 37] }) {lo : Nat} {A : Option Addr} {c : Nat} {l : List Bool} (hs : a.eval s = .slice A l.length c) (own : Own bit 4 1 w lo A c l)
    {B : Nat} {A2 : Option Addr} {m : List Bool} (c2 : Nat) (hx : a.eval x = .slice A2 m.length c2) (arr : Arr bit 1 w B A2 m) (hb : l.length + m.length ≤ 1000000) (hlo : lo ≤ w.heap.size)
    (h : ∀ A' c' w', Own bit 4 1 w' lo A' c' (l ++ m) → w.grownBy w' (rowOf A c) → (A' = A ∧ c' = c ∨ ∃ g, A' = some ⟨g, 0, none⟩ ∧ w.heap.size ≤ g) → wpList Tryd.prog ops Q rest (a.put o.dst (.slice A' (l.length + m.length) c')) w') :
    wpList Tryd.prog ops Q (o :: rest) a w := by
  obtain ⟨i0, hi, hz0, hz1, hz2⟩ := info_parts info_bool
  exact wpList_append_Own w hgd s x 37 ho i0 _ 1 Tryd.underlying37 hi hz0 hz1 hz2 rfl (by decide) bit_len bit_one hs own c2 hx arr (by unfold maxLen; omega) (by omega) hlo h
structure Ans where
  code : Int
  found : Bool
  value : ByteArray
  pairs : List Pair
  hits : List Bool
/-- an answer in a variable -/
def AnsAt (G : Nat → Prop) (w : World) (q : Nat) (a : Ans) : Prop :=
  ∃ RA rc HA hc, w.heap[q]? = some (.cells #[.int .i64 a.code, .bool a.found, .string a.value, .slice RA a.pairs.length rc, .slice HA a.hits.length hc, .int .u64 0] 40 (0, 0)) ∧
    Own Pair.enc 53 2 w 0 RA rc a.pairs ∧ Own bit 4 1 w 0 HA hc a.hits ∧ G q ∧ Lies G q RA rc ∧ Lies G q HA hc ∧ (∀ b o b' o', RA = some ⟨b, o, none⟩ → HA = some ⟨b', o', none⟩ → rc = 0 ∨ hc = 0 ∨ b ≠ b')
theorem lt_of_heap {w : World} {p : Nat} {o : Obj} (h : w.heap[p]? = some o) : p < w.heap.size := (Array.getElem?_eq_some_iff.1 h).1
theorem Lies.clip {F : Nat → Prop} {p : Nat} {α : Type} {enc : α → List Value} {e : TypeId} {k : Nat} {w : World} {lo : Nat} {A : Option Addr} {c : Nat} {l : List α} (h : Lies F p A c) (ho : Own enc e k w lo A c l) : Lies (fun j => F j ∧ j < w.heap.size) p A c := by
  rcases h with h | h
  · exact .inl h
  · rcases ho.lt with h0 | ⟨b, o, hA, _, hlt⟩
    · exact .inl h0
    · refine .inr fun b' o' hA' => ⟨⟨(h b' o' hA').1, ?_⟩, (h b' o' hA').2⟩
      rw [hA] at hA'
      cases hA'
      exact hlt
theorem Lies.mono {F G : Nat → Prop} {p : Nat} {A : Option Addr} {c : Nat} (h : Lies F p A c) (hFG : ∀ j, F j → G j) : Lies G p A c := h.imp id fun h b o hA => ⟨hFG _ (h b o hA).1, (h b o hA).2⟩
theorem Store.clip {F : Nat → Prop} {w : World} {p : Nat} {s : Shelf} (h : Store F w p s) : Store (fun j => F j ∧ j < w.heap.size) w p s := by
  obtain ⟨PA, pc, QA, qc, h1, h2, h3, h4, h5⟩ := h
  exact ⟨PA, pc, QA, qc, h1, h2, ⟨h3, lt_of_heap h1⟩, h4.clip h2.pairs, h5.clip h2.queue⟩
theorem Store.mono {F G : Nat → Prop} {w : World} {p : Nat} {s : Shelf} (h : Store F w p s) (hFG : ∀ j, F j → G j) : Store G w p s := by
  obtain ⟨PA, pc, QA, qc, h1, h2, h3, h4, h5⟩ := h
  exact ⟨PA, pc, QA, qc, h1, h2, hFG _ h3, h4.mono hFG, h5.mono hFG⟩
theorem AnsAt.clip {G : Nat → Prop} {w : World} {q : Nat} {a : Ans} (h : AnsAt G w q a) : AnsAt (fun j => G j ∧ j < w.heap.size) w q a := by
  obtain ⟨RA, rc, HA, hc, h1, h2, h3, h4, h5, h6, h7⟩ := h
  exact ⟨RA, rc, HA, hc, h1, h2, h3, ⟨h4, lt_of_heap h1⟩, h5.clip h2, h6.clip h3, h7⟩
theorem AnsAt.mono {F G : Nat → Prop} {w : World} {q : Nat} {a : Ans} (h : AnsAt F w q a) (hFG : ∀ j, F j → G j) : AnsAt G w q a := by
  obtain ⟨RA, rc, HA, hc, h1, h2, h3, h4, h5, h6, h7⟩ := h
  exact ⟨RA, rc, HA, hc, h1, h2, h3, hFG _ h4, h5.mono hFG, h6.mono hFG, h7⟩
theorem AnsAt.only {G K : Nat → Prop} {w w' : World} {q : Nat} {a : Ans} (h : AnsAt G w q a) (ho : Only K w w') (hG : ∀ j, G j → ¬ K j) : AnsAt G w' q a := by
  obtain ⟨RA, rc, HA, hc, h1, h2, h3, h4, h5, h6, h7⟩ := h
  exact ⟨RA, rc, HA, hc, (ho.block q (lt_of_heap h1) (hG q h4)).trans h1, h2.keep2 (h5.imp id fun h b o hA hlt => ho.block b hlt (hG b (h b o hA).1)), h3.keep2 (h6.imp id fun h b o hA hlt => ho.block b hlt (hG b (h b o hA).1)), h4, h5, h6, h7⟩

/-- a store and an answer, apart from one another, within K -/
def SA (K : Nat → Prop) (w : World) (p q : Nat) (s : Shelf) (a : Ans) : Prop :=
  ∃ F G : Nat → Prop, Store F w p s ∧ AnsAt G w q a ∧ (∀ j, F j → ¬ G j) ∧ (∀ j, F j → K j) ∧ (∀ j, G j → K j)
/-- behind what has turned the store alone -/
theorem SA.store {K F G : Nat → Prop} {w w' : World} {p q : Nat} {s' : Shelf} {a : Ans} (hK : ∀ j, w.heap.size ≤ j → K j) (hA : AnsAt G w q a) (hFG : ∀ j, F j → ¬ G j) (hFK : ∀ j, F j → K j) (hGK : ∀ j, G j → K j)
    (hS : Store (fun j => F j ∨ w.heap.size ≤ j) w' p s') (ho : Only (fun j => F j ∨ w.heap.size ≤ j) w w') : SA K w' p q s' a ∧ Only K w w' := by
  have h1 := hA.clip
  refine ⟨⟨_, _, hS, h1.only ho fun j hj hf => ?_, fun j hj hg => ?_, fun j hj => hj.elim (hFK j) (hK j), fun j hj => hGK j hj.1⟩, ho.mono fun j hj => hj.elim (hFK j) (hK j)⟩
  · rcases hf with hf | hf
    · exact hFG j hf hj.1
    · have := hj.2; omega
  · rcases hj with hf | hf
    · exact hFG j hf hg.1
    · have := hg.2; omega
/-- the answer's plain cells -/
theorem AnsAt.setFound {G : Nat → Prop} {w : World} {q : Nat} {a : Ans} (h : AnsAt G w q a) (b : Bool) : AnsAt G (w.setCell ⟨q, 1, none⟩ (.bool b)) q { a with found := b } ∧ Only G w (w.setCell ⟨q, 1, none⟩ (.bool b)) := by
  obtain ⟨RA, rc, HA, hc, h1, h2, h3, h4, h5, h6, h7⟩ := h
  refine ⟨⟨RA, rc, HA, hc, ?_, h2.keep2 (h5.imp id fun h b o hA _ => Below.heap_setCell _ _ _ _ (h b o hA).2), h3.keep2 (h6.imp id fun h b o hA _ => Below.heap_setCell _ _ _ _ (h b o hA).2), h4, h5, h6, h7⟩, (Only.refl _ _).setCell _ _ h4⟩
  rw [heap_setCell_same w q 1 _ _ _ h1]; rfl
theorem AnsAt.setValue {G : Nat → Prop} {w : World} {q : Nat} {a : Ans} (h : AnsAt G w q a) (v : ByteArray) : AnsAt G (w.setCell ⟨q, 2, none⟩ (.string v)) q { a with value := v } ∧ Only G w (w.setCell ⟨q, 2, none⟩ (.string v)) := by
  obtain ⟨RA, rc, HA, hc, h1, h2, h3, h4, h5, h6, h7⟩ := h
  refine ⟨⟨RA, rc, HA, hc, ?_, h2.keep2 (h5.imp id fun h b o hA _ => Below.heap_setCell _ _ _ _ (h b o hA).2), h3.keep2 (h6.imp id fun h b o hA _ => Below.heap_setCell _ _ _ _ (h b o hA).2), h4, h5, h6, h7⟩, (Only.refl _ _).setCell _ _ h4⟩
  rw [heap_setCell_same w q 2 _ _ _ h1]; rfl
theorem SA.setFound {K : Nat → Prop} {w : World} {p q : Nat} {s : Shelf} {a : Ans} (h : SA K w p q s a) (b : Bool) : SA K (w.setCell ⟨q, 1, none⟩ (.bool b)) p q s { a with found := b } ∧ Only K w (w.setCell ⟨q, 1, none⟩ (.bool b)) := by
  obtain ⟨F, G, hS, hA, hFG, hFK, hGK⟩ := h
  obtain ⟨h1, h2⟩ := hA.setFound b
  exact ⟨⟨F, G, hS.only h2 hFG, h1, hFG, hFK, hGK⟩, h2.mono hGK⟩
theorem SA.setValue {K : Nat → Prop} {w : World} {p q : Nat} {s : Shelf} {a : Ans} (h : SA K w p q s a) (v : ByteArray) : SA K (w.setCell ⟨q, 2, none⟩ (.string v)) p q s { a with value := v } ∧ Only K w (w.setCell ⟨q, 2, none⟩ (.string v)) := by
  obtain ⟨F, G, hS, hA, hFG, hFK, hGK⟩ := h
  obtain ⟨h1, h2⟩ := hA.setValue v
  exact ⟨⟨F, G, hS.only h2 hFG, h1, hFG, hFK, hGK⟩, h2.mono hGK⟩
theorem SA.row {K : Nat → Prop} {w : World} {p q : Nat} {s : Shelf} {a : Ans} (h : SA K w p q s a) :
    ∃ RA rc HA hc, w.heap[q]? = some (.cells #[.int .i64 a.code, .bool a.found, .string a.value, .slice RA a.pairs.length rc, .slice HA a.hits.length hc, .int .u64 0] 40 (0, 0)) := by
  obtain ⟨F, G, hS, ⟨RA, rc, HA, hc, h1, _⟩, _⟩ := h
  exact ⟨RA, rc, HA, hc, h1⟩
theorem SA.only {K L : Nat → Prop} {w w' : World} {p q : Nat} {s : Shelf} {a : Ans} (h : SA K w p q s a) (ho : Only L w w') (hL : ∀ j, K j → j < w.heap.size → ¬ L j) : SA K w' p q s a := by
  obtain ⟨F, G, hS, hA, hFG, hFK, hGK⟩ := h
  exact ⟨_, _, hS.clip.only ho fun j hj => hL j (hFK j hj.1) hj.2, hA.clip.only ho fun j hj => hL j (hGK j hj.1) hj.2, fun j hj hg => hFG j hj.1 hg.1, fun j hj => hFK j hj.1, fun j hj => hGK j hj.1⟩
theorem SA.below {K : Nat → Prop} {w w' : World} {p q : Nat} {s : Shelf} {a : Ans} (h : SA K w p q s a) (hb : Below w.heap.size w w') : SA K w' p q s a :=
  h.only (L := fun j => w.heap.size ≤ j) (⟨hb.os, hb.tape, hb.output, hb.size, fun j hj _ => hb.block j hj⟩) fun j _ hlt => by omega

/-- a store to be turned alone -/
theorem SA.part {K : Nat → Prop} {w : World} {p q : Nat} {s : Shelf} {a : Ans} (h : SA K w p q s a) (hK : ∀ j, w.heap.size ≤ j → K j) :
    ∃ F : Nat → Prop, Store F w p s ∧ (∀ j, w.heap.size ≤ j → F j) ∧ ∀ w' s', Store F w' p s' → Only F w w' → SA K w' p q s' a ∧ Only K w w' := by
  obtain ⟨F, G, hS, hA, hFG, hFK, hGK⟩ := h
  exact ⟨fun j => F j ∨ w.heap.size ≤ j, hS.mono fun j hj => .inl hj, fun j hj => .inr hj, fun w' s' h1 h2 => SA.store hK hA hFG hFK hGK h1 h2⟩
/-- has a key a value? -/
def hasK (l : List Pair) (key : ByteArray) : Bool := decide (l.findIdx (eqK key) < l.length)
/-- what a doing gives back: nothing; the store and the answer have become s', a' -/
def GivesDo (K : Nat → Prop) (p q : Nat) (s' : Shelf) (a' : Ans) (w : World) (e : Ending) (w' : World) : Prop := e = .returned (.tuple #[]) ∧ SA K w' p q s' a' ∧ Only K w w'
set_option maxHeartbeats 2000000 in
theorem do_put (K : Nat → Prop) (p q : Nat) (s : Shelf) (a : Ans) (c : Call0) (w : World) (h : SA K w p q s a) (hK : ∀ j, w.heap.size ≤ j → K j) (hl : s.pairs.length ≤ 100000) :
    Calls Tryd.prog 40 #[.pointer (some ⟨p, 0, none⟩), .agg #[.int .i64 c.kind, .string c.key, .string c.val, .string c.to, .slice c.gA c.gn c.gc], .pointer (some ⟨q, 0, none⟩)] w
      (GivesDo K p q ⟨setP s.pairs c.key c.val, s.queue⟩ { a with found := hasK s.pairs c.key } w) := by
  have hb0 : Below w.heap.size w (w.alloc (.cells #[.int .i64 c.kind, .string c.key, .string c.val, .string c.to, .slice c.gA c.gn c.gc] 33)) := (Below.refl _ w).alloc (Nat.le_refl _) _
  obtain ⟨F, hS, hF, hST⟩ := (h.below hb0).part (fun j hj => hK j (by simp at hj; omega))
  have HS := hid hS
  have HFr := hid hF
  have HST := hid hST
  have HL := hid hl
  have HB := hid (Only.of_below (F := K) hb0)
  clear h hK hS hF hST hl hb0
  go_enter Tryd.func40, Tryd.ntmps40
  go_wp2_with fail
  refine (set_any _ p s c.key c.val _ HS.out HFr.out HL.out).mono ?_
  rintro e w1 ⟨rfl, hs1, ho1⟩
  rw [show decide (s.pairs.findIdx (eqK c.key) < s.pairs.length) = hasK s.pairs c.key from rfl]
  obtain ⟨hsa, hon⟩ := HST.out w1 _ hs1 ho1
  obtain ⟨RA, rc, HA, hc, hq⟩ := hsa.row
  have eq1 : w1.cell? ⟨q, 1, none⟩ = some (.bool a.found) := by rw [cell_of_row w1 q 1 _ _ _ hq]; rfl
  have fq1 := frozen_of_row w1 q 1 _ _ hq
  have HQ := hid hsa
  have HO := hid hon
  clear hs1 ho1 hsa hon hq
  go_wp2
  refine bodyPost_ret (v := .tuple #[]) (by simp [results, Tryd.results40]) rfl ?_
  obtain ⟨r1, r2⟩ := HQ.out.setFound (hasK s.pairs c.key)
  exact ⟨rfl, r1, (HB.out.trans HO.out).trans r2⟩
end Go.Proofs.YtamcehfcjcmpmaaDoor
