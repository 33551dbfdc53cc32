/- ideal.Apply of a call that is no group. -/
import Derived.Test.YtamcehfcjcmpmaaGreatDoorIdl8
import Derived.Test.YtamcehfcjcmpmaaGreatDoorIdl2
import Derived.Lib.Bytealg
import Derived.Laws.Externs
/- A store and an answer in variables of the program's own: what may be written, and what stays. -/
namespace Go.Proofs.YtamcehfcjcmpmaaGreatDoor
open Go.RowKit

def bit (b : Bool) : List Value := [.bool b]
theorem bit_len (b : Bool) : (bit b).length = 1 := rfl
theorem bit_one (b : Bool) : ∀ u ∈ bit b, u.oneCell' = true := by intro u hu; simp [bit] at hu; subst hu; rfl
theorem info_bool : (Tryz.prog.info? 4).map (fun i => (i.zero, i.size, i.bytes)) = some (some (.bool false), 1, 1) := by kernel_rfl
theorem app_bit {ops : Array Oper} {rest : List Oper} {o : Oper} {a : Act} {Q : Exit → Act → World → Prop} (w : World) (hgd : o.guard = none) (s x : Operand)
    (ho : o.op = .call { callee := .builtin .append, args := #[s, x], argTypes := #[47, 47] }) {lo : Nat} {A : Option Addr} {c : Nat} {l : List Bool} (hs : a.eval s = .slice A l.length c) (own : Own bit 4 1 w lo A c l)
    {B : Nat} {A2 : Option Addr} {m : List Bool} (c2 : Nat) (hx : a.eval x = .slice A2 m.length c2) (arr : Arr bit 1 w B A2 m) (hb : l.length + m.length ≤ 1000000) (hlo : lo ≤ w.heap.size)
    (h : ∀ A' c' w', Own bit 4 1 w' lo A' c' (l ++ m) → w.grownBy w' (rowOf A c) → (A' = A ∧ c' = c ∨ ∃ g, A' = some ⟨g, 0, none⟩ ∧ w.heap.size ≤ g) → wpList Tryz.prog ops Q rest (a.put o.dst (.slice A' (l.length + m.length) c')) w') :
    wpList Tryz.prog ops Q (o :: rest) a w := by
  obtain ⟨i0, hi, hz0, hz1, hz2⟩ := info_parts info_bool
  exact wpList_append_Own w hgd s x 47 ho i0 _ 1 Tryz.underlying47 hi hz0 hz1 hz2 rfl (by decide) bit_len bit_one hs own c2 hx arr (by unfold maxLen; omega) (by omega) hlo h
structure Ans where
  code : Int
  found : Bool
  value : ByteArray
  pairs : List Pair
  hits : List Bool
/-- an answer in a variable -/
def AnsAt (G : Nat → Prop) (w : World) (q : Nat) (a : Ans) : Prop :=
  ∃ RA rc HA hc, w.heap[q]? = some (.cells #[.int .i64 a.code, .bool a.found, .string a.value, .slice RA a.pairs.length rc, .slice HA a.hits.length hc, .int .u64 0] 50 (0, 0)) ∧
    Own Pair.enc 54 2 w 0 RA rc a.pairs ∧ Own bit 4 1 w 0 HA hc a.hits ∧ G q ∧ Lies G q RA rc ∧ Lies G q HA hc ∧ (∀ b o b' o', RA = some ⟨b, o, none⟩ → HA = some ⟨b', o', none⟩ → rc = 0 ∨ hc = 0 ∨ b ≠ b')
theorem lt_of_heap {w : World} {p : Nat} {o : Obj} (h : w.heap[p]? = some o) : p < w.heap.size := (Array.getElem?_eq_some_iff.1 h).1
theorem Lies.clip {F : Nat → Prop} {p : Nat} {α : Type} {enc : α → List Value} {e : TypeId} {k : Nat} {w : World} {lo : Nat} {A : Option Addr} {c : Nat} {l : List α} (h : Lies F p A c) (ho : Own enc e k w lo A c l) : Lies (fun j => F j ∧ j < w.heap.size) p A c := by
  rcases h with h | h
  · exact .inl h
  · rcases ho.lt with h0 | ⟨b, o, hA, _, hlt⟩
    · exact .inl h0
    · refine .inr fun b' o' hA' => ⟨⟨(h b' o' hA').1, ?_⟩, (h b' o' hA').2⟩
      rw [hA] at hA'
      cases hA'
      exact hlt
theorem Lies.mono {F G : Nat → Prop} {p : Nat} {A : Option Addr} {c : Nat} (h : Lies F p A c) (hFG : ∀ j, F j → G j) : Lies G p A c := h.imp id fun h b o hA => ⟨hFG _ (h b o hA).1, (h b o hA).2⟩
theorem Store.clip {F : Nat → Prop} {w : World} {p : Nat} {s : Shelf} (h : Store F w p s) : Store (fun j => F j ∧ j < w.heap.size) w p s := by
  obtain ⟨PA, pc, QA, qc, h1, h2, h3, h4, h5⟩ := h
  exact ⟨PA, pc, QA, qc, h1, h2, ⟨h3, lt_of_heap h1⟩, h4.clip h2.pairs, h5.clip h2.queue⟩
theorem Store.mono {F G : Nat → Prop} {w : World} {p : Nat} {s : Shelf} (h : Store F w p s) (hFG : ∀ j, F j → G j) : Store G w p s := by
  obtain ⟨PA, pc, QA, qc, h1, h2, h3, h4, h5⟩ := h
  exact ⟨PA, pc, QA, qc, h1, h2, hFG _ h3, h4.mono hFG, h5.mono hFG⟩
theorem AnsAt.clip {G : Nat → Prop} {w : World} {q : Nat} {a : Ans} (h : AnsAt G w q a) : AnsAt (fun j => G j ∧ j < w.heap.size) w q a := by
  obtain ⟨RA, rc, HA, hc, h1, h2, h3, h4, h5, h6, h7⟩ := h
  exact ⟨RA, rc, HA, hc, h1, h2, h3, ⟨h4, lt_of_heap h1⟩, h5.clip h2, h6.clip h3, h7⟩
theorem AnsAt.mono {F G : Nat → Prop} {w : World} {q : Nat} {a : Ans} (h : AnsAt F w q a) (hFG : ∀ j, F j → G j) : AnsAt G w q a := by
  obtain ⟨RA, rc, HA, hc, h1, h2, h3, h4, h5, h6, h7⟩ := h
  exact ⟨RA, rc, HA, hc, h1, h2, h3, hFG _ h4, h5.mono hFG, h6.mono hFG, h7⟩
theorem AnsAt.only {G K : Nat → Prop} {w w' : World} {q : Nat} {a : Ans} (h : AnsAt G w q a) (ho : Only K w w') (hG : ∀ j, G j → ¬ K j) : AnsAt G w' q a := by
  obtain ⟨RA, rc, HA, hc, h1, h2, h3, h4, h5, h6, h7⟩ := h
  exact ⟨RA, rc, HA, hc, (ho.block q (lt_of_heap h1) (hG q h4)).trans h1, h2.keep2 (h5.imp id fun h b o hA hlt => ho.block b hlt (hG b (h b o hA).1)), h3.keep2 (h6.imp id fun h b o hA hlt => ho.block b hlt (hG b (h b o hA).1)), h4, h5, h6, h7⟩

/-- a store and an answer, apart from one another, within K -/
def SA (K : Nat → Prop) (w : World) (p q : Nat) (s : Shelf) (a : Ans) : Prop :=
  ∃ F G : Nat → Prop, Store F w p s ∧ AnsAt G w q a ∧ (∀ j, F j → ¬ G j) ∧ (∀ j, F j → K j) ∧ (∀ j, G j → K j)
/-- behind what has turned the store alone -/
theorem SA.store {K F G : Nat → Prop} {w w' : World} {p q : Nat} {s' : Shelf} {a : Ans} (hK : ∀ j, w.heap.size ≤ j → K j) (hA : AnsAt G w q a) (hFG : ∀ j, F j → ¬ G j) (hFK : ∀ j, F j → K j) (hGK : ∀ j, G j → K j)
    (hS : Store (fun j => F j ∨ w.heap.size ≤ j) w' p s') (ho : Only (fun j => F j ∨ w.heap.size ≤ j) w w') : SA K w' p q s' a ∧ Only K w w' := by
  have h1 := hA.clip
  refine ⟨⟨_, _, hS, h1.only ho fun j hj hf => ?_, fun j hj hg => ?_, fun j hj => hj.elim (hFK j) (hK j), fun j hj => hGK j hj.1⟩, ho.mono fun j hj => hj.elim (hFK j) (hK j)⟩
  · rcases hf with hf | hf
    · exact hFG j hf hj.1
    · have := hj.2; omega
  · rcases hj with hf | hf
    · exact hFG j hf hg.1
    · have := hg.2; omega
/-- the answer's plain cells -/
theorem AnsAt.setFound {G : Nat → Prop} {w : World} {q : Nat} {a : Ans} (h : AnsAt G w q a) (b : Bool) : AnsAt G (w.setCell ⟨q, 1, none⟩ (.bool b)) q { a with found := b } ∧ Only G w (w.setCell ⟨q, 1, none⟩ (.bool b)) := by
  obtain ⟨RA, rc, HA, hc, h1, h2, h3, h4, h5, h6, h7⟩ := h
  refine ⟨⟨RA, rc, HA, hc, ?_, h2.keep2 (h5.imp id fun h b o hA _ => Below.heap_setCell _ _ _ _ (h b o hA).2), h3.keep2 (h6.imp id fun h b o hA _ => Below.heap_setCell _ _ _ _ (h b o hA).2), h4, h5, h6, h7⟩, (Only.refl _ _).setCell _ _ h4⟩
  rw [heap_setCell_same w q 1 _ _ _ h1]; rfl
theorem AnsAt.setValue {G : Nat → Prop} {w : World} {q : Nat} {a : Ans} (h : AnsAt G w q a) (v : ByteArray) : AnsAt G (w.setCell ⟨q, 2, none⟩ (.string v)) q { a with value := v } ∧ Only G w (w.setCell ⟨q, 2, none⟩ (.string v)) := by
  obtain ⟨RA, rc, HA, hc, h1, h2, h3, h4, h5, h6, h7⟩ := h
  refine ⟨⟨RA, rc, HA, hc, ?_, h2.keep2 (h5.imp id fun h b o hA _ => Below.heap_setCell _ _ _ _ (h b o hA).2), h3.keep2 (h6.imp id fun h b o hA _ => Below.heap_setCell _ _ _ _ (h b o hA).2), h4, h5, h6, h7⟩, (Only.refl _ _).setCell _ _ h4⟩
  rw [heap_setCell_same w q 2 _ _ _ h1]; rfl
theorem SA.setFound {K : Nat → Prop} {w : World} {p q : Nat} {s : Shelf} {a : Ans} (h : SA K w p q s a) (b : Bool) : SA K (w.setCell ⟨q, 1, none⟩ (.bool b)) p q s { a with found := b } ∧ Only K w (w.setCell ⟨q, 1, none⟩ (.bool b)) := by
  obtain ⟨F, G, hS, hA, hFG, hFK, hGK⟩ := h
  obtain ⟨h1, h2⟩ := hA.setFound b
  exact ⟨⟨F, G, hS.only h2 hFG, h1, hFG, hFK, hGK⟩, h2.mono hGK⟩
theorem SA.setValue {K : Nat → Prop} {w : World} {p q : Nat} {s : Shelf} {a : Ans} (h : SA K w p q s a) (v : ByteArray) : SA K (w.setCell ⟨q, 2, none⟩ (.string v)) p q s { a with value := v } ∧ Only K w (w.setCell ⟨q, 2, none⟩ (.string v)) := by
  obtain ⟨F, G, hS, hA, hFG, hFK, hGK⟩ := h
  obtain ⟨h1, h2⟩ := hA.setValue v
  exact ⟨⟨F, G, hS.only h2 hFG, h1, hFG, hFK, hGK⟩, h2.mono hGK⟩
theorem SA.row {K : Nat → Prop} {w : World} {p q : Nat} {s : Shelf} {a : Ans} (h : SA K w p q s a) :
    ∃ RA rc HA hc, w.heap[q]? = some (.cells #[.int .i64 a.code, .bool a.found, .string a.value, .slice RA a.pairs.length rc, .slice HA a.hits.length hc, .int .u64 0] 50 (0, 0)) := by
  obtain ⟨F, G, hS, ⟨RA, rc, HA, hc, h1, _⟩, _⟩ := h
  exact ⟨RA, rc, HA, hc, h1⟩
theorem SA.only {K L : Nat → Prop} {w w' : World} {p q : Nat} {s : Shelf} {a : Ans} (h : SA K w p q s a) (ho : Only L w w') (hL : ∀ j, K j → j < w.heap.size → ¬ L j) : SA K w' p q s a := by
  obtain ⟨F, G, hS, hA, hFG, hFK, hGK⟩ := h
  exact ⟨_, _, hS.clip.only ho fun j hj => hL j (hFK j hj.1) hj.2, hA.clip.only ho fun j hj => hL j (hGK j hj.1) hj.2, fun j hj hg => hFG j hj.1 hg.1, fun j hj => hFK j hj.1, fun j hj => hGK j hj.1⟩
theorem SA.below {K : Nat → Prop} {w w' : World} {p q : Nat} {s : Shelf} {a : Ans} (h : SA K w p q s a) (hb : Below w.heap.size w w') : SA K w' p q s a :=
  h.only (L := fun j => w.heap.size ≤ j) (⟨hb.os, hb.tape, hb.output, hb.size, fun j hj _ => hb.block j hj⟩) fun j _ hlt => by omega

/-- a store to be turned alone -/
theorem SA.part {K : Nat → Prop} {w : World} {p q : Nat} {s : Shelf} {a : Ans} (h : SA K w p q s a) (hK : ∀ j, w.heap.size ≤ j → K j) :
    ∃ F : Nat → Prop, Store F w p s ∧ (∀ j, w.heap.size ≤ j → F j) ∧ ∀ w' s', Store F w' p s' → Only F w w' → SA K w' p q s' a ∧ Only K w w' := by
  obtain ⟨F, G, hS, hA, hFG, hFK, hGK⟩ := h
  exact ⟨fun j => F j ∨ w.heap.size ≤ j, hS.mono fun j hj => .inl hj, fun j hj => .inr hj, fun w' s' h1 h2 => SA.store hK hA hFG hFK hGK h1 h2⟩
/-- has a key a value? -/
def hasK (l : List Pair) (key : ByteArray) : Bool := decide (l.findIdx (eqK key) < l.length)
/-- what a doing gives back: nothing; the store and the answer have become s', a' -/
def GivesDo (K : Nat → Prop) (p q : Nat) (s' : Shelf) (a' : Ans) (w : World) (e : Ending) (w' : World) : Prop := e = .returned (.tuple #[]) ∧ SA K w' p q s' a' ∧ Only K w w'
set_option maxHeartbeats 2000000 in
theorem do_put (K : Nat → Prop) (p q : Nat) (s : Shelf) (a : Ans) (c : Call0) (w : World) (h : SA K w p q s a) (hK : ∀ j, w.heap.size ≤ j → K j) (hl : s.pairs.length ≤ 100000) :
    Calls Tryz.prog 63 #[.pointer (some ⟨p, 0, none⟩), .agg #[.int .i64 c.kind, .string c.key, .string c.val, .string c.to, .slice c.gA c.gn c.gc], .pointer (some ⟨q, 0, none⟩)] w
      (GivesDo K p q ⟨setP s.pairs c.key c.val, s.queue⟩ { a with found := hasK s.pairs c.key } w) := by
  have hb0 : Below w.heap.size w (w.alloc (.cells #[.int .i64 c.kind, .string c.key, .string c.val, .string c.to, .slice c.gA c.gn c.gc] 46)) := (Below.refl _ w).alloc (Nat.le_refl _) _
  obtain ⟨F, hS, hF, hST⟩ := (h.below hb0).part (fun j hj => hK j (by simp at hj; omega))
  have HS := hid hS
  have HFr := hid hF
  have HST := hid hST
  have HL := hid hl
  have HB := hid (Only.of_below (F := K) hb0)
  clear h hK hS hF hST hl hb0
  go_enter Tryz.func63, Tryz.ntmps63
  go_wp2_with fail
  refine (set_any _ p s c.key c.val _ HS.out HFr.out HL.out).mono ?_
  rintro e w1 ⟨rfl, hs1, ho1⟩
  rw [show decide (s.pairs.findIdx (eqK c.key) < s.pairs.length) = hasK s.pairs c.key from rfl]
  obtain ⟨hsa, hon⟩ := HST.out w1 _ hs1 ho1
  obtain ⟨RA, rc, HA, hc, hq⟩ := hsa.row
  have eq1 : w1.cell? ⟨q, 1, none⟩ = some (.bool a.found) := by rw [cell_of_row w1 q 1 _ _ _ hq]; rfl
  have fq1 := frozen_of_row w1 q 1 _ _ hq
  have HQ := hid hsa
  have HO := hid hon
  clear hs1 ho1 hsa hon hq
  go_wp2
  refine bodyPost_ret (v := .tuple #[]) (by simp [results, Tryz.results63]) rfl ?_
  obtain ⟨r1, r2⟩ := HQ.out.setFound (hasK s.pairs c.key)
  exact ⟨rfl, r1, (HB.out.trans HO.out).trans r2⟩
end Go.Proofs.YtamcehfcjcmpmaaGreatDoor
/- strings.Compare; an answer's lists set anew. -/
namespace Go.Proofs.YtamcehfcjcmpmaaGreatDoor
open Go.RowKit

def cmpB (a b : ByteArray) : Int := Lib.compareBytes a.data.toList b.data.toList
set_option maxHeartbeats 1000000 in
set_option maxRecDepth 100000 in
theorem cmp_bytealg (a b : ByteArray) (w : World) : Calls Tryz.prog 95 #[.string a, .string b] w fun e w' => e = .returned (.int .i64 (cmpB a b)) ∧ w = w' := by
  go_enter Tryz.func95, Tryz.ntmps95
  go_wp2
  rw [run_callFunc_extern Tryz.func102 (by kernel_rfl) (by kernel_rfl) (by kernel_rfl) (e := Extern.BytealgCompare.compare) (by kernel_rfl), Lib.run_compareString]
  simp only [Result.andThen]
  rw [Oper.upon_value]
  go_wp2
  go_ret
  exact ⟨rfl, rfl⟩
theorem cmp_any (a b : ByteArray) (w : World) : Calls Tryz.prog 84 #[.string a, .string b] w fun e w' => e = .returned (.int .i64 (cmpB a b)) ∧ w = w' := by
  go_enter Tryz.func84, Tryz.ntmps84
  go_wp2_with (go_at_call 95; refine (cmp_bytealg a b _).mono ?_; rintro e w' ⟨rfl, rfl⟩)
  go_ret
  exact ⟨rfl, rfl⟩

/-- an answer whose pairs are set anew -/
theorem AnsAt.putPairs {G : Nat → Prop} {q : Nat} {a : Ans} {w2 W w3 : World} {RA : Option Addr} {rc : Nat} {HA : Option Addr} {hc : Nat} {A' : Option Addr} {c' n : Nat} {l' : List Pair}
    (h1 : w2.heap[q]? = some (.cells #[.int .i64 a.code, .bool a.found, .string a.value, .slice RA a.pairs.length rc, .slice HA a.hits.length hc, .int .u64 0] 50 (0, 0))) (h2 : Own Pair.enc 54 2 w2 0 RA rc a.pairs) (h3 : Own bit 4 1 w2 0 HA hc a.hits) (h4 : G q) (h5 : Lies G q RA rc) (h6 : Lies G q HA hc)
    (h7 : ∀ b o b' o', RA = some ⟨b, o, none⟩ → HA = some ⟨b', o', none⟩ → rc = 0 ∨ hc = 0 ∨ b ≠ b')
    (hG : ∀ j, w2.heap.size ≤ j → G j) (hW : Below w2.heap.size w2 W) (hgr : W.grownBy w3 (rowOf RA rc)) (hown : Own Pair.enc 54 2 w3 0 A' c' l') (hloc : A' = RA ∧ c' = rc ∨ ∃ g, A' = some ⟨g, 0, none⟩ ∧ W.heap.size ≤ g) (hn : n = l'.length) :
    AnsAt G (w3.setCell ⟨q, 3, none⟩ (.slice A' n c')) q { a with pairs := l' } ∧ Only G w2 (w3.setCell ⟨q, 3, none⟩ (.slice A' n c')) := by
  subst hn
  have hq := lt_of_heap h1
  have hWs := hW.size
  have hrow := h2.row h5
  have hon : Only G w2 w3 := (Only.of_below hW).trans (Only.grown hgr fun j hj => (hrow j hj).1)
  have hq3 : w3.heap[q]? = some (.cells #[.int .i64 a.code, .bool a.found, .string a.value, .slice RA a.pairs.length rc, .slice HA a.hits.length hc, .int .u64 0] 50 (0, 0)) := ((hgr.block q (by omega) fun hr => (hrow q hr.symm).2 rfl).trans (hW.block q hq)).trans h1
  have hlies : Lies G q A' c' := by
    rcases hloc with ⟨rfl, rfl⟩ | ⟨g, rfl, hg⟩
    · exact h5
    · exact .inr fun b o hA => by cases hA; exact ⟨hG _ (by omega), by omega⟩
  have hother : Own bit 4 1 (w3.setCell ⟨q, 3, none⟩ (.slice A' l'.length c')) 0 HA hc a.hits := by
    refine Own.keep2 (h3.keep2 (w' := w3) ?_) (h6.imp id fun h b o hA _ => Below.heap_setCell _ _ _ _ (h b o hA).2)
    by_cases h0 : hc = 0
    · exact .inl h0
    · refine .inr fun b o hA hlt => (hgr.block b (by omega) fun hr => ?_).trans (hW.block b hlt)
      unfold rowOf at hr
      split at hr
      · cases hr
      · rcases h2.2.2 with h9 | ⟨b', off', _, hPA, _⟩
        · exact absurd h9 ‹_›
        · subst hPA
          simp at hr
          rcases h7 b' off' b o rfl hA with h | h | h
          · exact absurd h ‹_›
          · exact absurd h ‹_›
          · first | exact h hr.symm | exact h hr
  have hmine := hown.keep2 (w' := w3.setCell ⟨q, 3, none⟩ (.slice A' l'.length c')) (hlies.imp id fun h b o hA _ => Below.heap_setCell _ _ _ _ (h b o hA).2)
  have hrow' : (w3.setCell ⟨q, 3, none⟩ (.slice A' l'.length c')).heap[q]? = _ := heap_setCell_same w3 q 3 _ _ _ hq3
  refine ⟨⟨A', c', HA, hc, ?_, hmine, hother, h4, hlies, h6, ?_⟩, hon.setCell _ _ h4⟩
  · rw [hrow']; rfl
  · rcases hloc with ⟨rfl, rfl⟩ | ⟨g, rfl, hg⟩
    · exact h7
    · intro b o b' o' hA hB
      cases hA
      rcases h3.lt with h0 | ⟨b2, o2, hQ, _, hlt⟩
      · exact .inr (.inl h0)
      · rw [hQ] at hB
        cases hB
        exact .inr (.inr (by omega))
/-- an answer whose hits are set anew -/
theorem AnsAt.putHits {G : Nat → Prop} {q : Nat} {a : Ans} {w2 W w3 : World} {RA : Option Addr} {rc : Nat} {HA : Option Addr} {hc : Nat} {A' : Option Addr} {c' n : Nat} {l' : List Bool}
    (h1 : w2.heap[q]? = some (.cells #[.int .i64 a.code, .bool a.found, .string a.value, .slice RA a.pairs.length rc, .slice HA a.hits.length hc, .int .u64 0] 50 (0, 0))) (h2 : Own Pair.enc 54 2 w2 0 RA rc a.pairs) (h3 : Own bit 4 1 w2 0 HA hc a.hits) (h4 : G q) (h5 : Lies G q RA rc) (h6 : Lies G q HA hc)
    (h7 : ∀ b o b' o', RA = some ⟨b, o, none⟩ → HA = some ⟨b', o', none⟩ → rc = 0 ∨ hc = 0 ∨ b ≠ b')
    (hG : ∀ j, w2.heap.size ≤ j → G j) (hW : Below w2.heap.size w2 W) (hgr : W.grownBy w3 (rowOf HA hc)) (hown : Own bit 4 1 w3 0 A' c' l') (hloc : A' = HA ∧ c' = hc ∨ ∃ g, A' = some ⟨g, 0, none⟩ ∧ W.heap.size ≤ g) (hn : n = l'.length) :
    AnsAt G (w3.setCell ⟨q, 4, none⟩ (.slice A' n c')) q { a with hits := l' } ∧ Only G w2 (w3.setCell ⟨q, 4, none⟩ (.slice A' n c')) := by
  subst hn
  have hq := lt_of_heap h1
  have hWs := hW.size
  have hrow := h3.row h6
  have hon : Only G w2 w3 := (Only.of_below hW).trans (Only.grown hgr fun j hj => (hrow j hj).1)
  have hq3 : w3.heap[q]? = some (.cells #[.int .i64 a.code, .bool a.found, .string a.value, .slice RA a.pairs.length rc, .slice HA a.hits.length hc, .int .u64 0] 50 (0, 0)) := ((hgr.block q (by omega) fun hr => (hrow q hr.symm).2 rfl).trans (hW.block q hq)).trans h1
  have hlies : Lies G q A' c' := by
    rcases hloc with ⟨rfl, rfl⟩ | ⟨g, rfl, hg⟩
    · exact h6
    · exact .inr fun b o hA => by cases hA; exact ⟨hG _ (by omega), by omega⟩
  have hother : Own Pair.enc 54 2 (w3.setCell ⟨q, 4, none⟩ (.slice A' l'.length c')) 0 RA rc a.pairs := by
    refine Own.keep2 (h2.keep2 (w' := w3) ?_) (h5.imp id fun h b o hA _ => Below.heap_setCell _ _ _ _ (h b o hA).2)
    by_cases h0 : rc = 0
    · exact .inl h0
    · refine .inr fun b o hA hlt => (hgr.block b (by omega) fun hr => ?_).trans (hW.block b hlt)
      unfold rowOf at hr
      split at hr
      · cases hr
      · rcases h3.2.2 with h9 | ⟨b', off', _, hPA, _⟩
        · exact absurd h9 ‹_›
        · subst hPA
          simp at hr
          rcases h7 b o b' off' hA rfl with h | h | h
          · exact absurd h ‹_›
          · exact absurd h ‹_›
          · first | exact h hr.symm | exact h hr
  have hmine := hown.keep2 (w' := w3.setCell ⟨q, 4, none⟩ (.slice A' l'.length c')) (hlies.imp id fun h b o hA _ => Below.heap_setCell _ _ _ _ (h b o hA).2)
  have hrow' : (w3.setCell ⟨q, 4, none⟩ (.slice A' l'.length c')).heap[q]? = _ := heap_setCell_same w3 q 4 _ _ _ hq3
  refine ⟨⟨RA, rc, A', c', ?_, hother, hmine, h4, h5, hlies, ?_⟩, hon.setCell _ _ h4⟩
  · rw [hrow']; rfl
  · rcases hloc with ⟨rfl, rfl⟩ | ⟨g, rfl, hg⟩
    · exact h7
    · intro b o b' o' hA hB
      cases hB
      rcases h2.lt with h0 | ⟨b2, o2, hQ, _, hlt⟩
      · exact .inl h0
      · rw [hQ] at hA
        cases hA
        exact .inr (.inr (by omega))
end Go.Proofs.YtamcehfcjcmpmaaGreatDoor
namespace Go.Proofs.YtamcehfcjcmpmaaGreatDoor
open Go.RowKit

theorem heap_alloc_if (w : World) (o : Obj) (k : Nat) : (w.alloc o).heap[k]? = if k = w.heap.size then some o else w.heap[k]? := by
  show (w.heap.push o)[k]? = _
  rw [Array.getElem?_push]
def Call0.val' (c : Call0) : Value := .agg #[.int .i64 c.kind, .string c.key, .string c.val, .string c.to, .slice c.gA c.gn c.gc]
def ans0 (code : Int) : Ans := ⟨code, false, ByteArray.empty, [], []⟩
theorem Own.raise {α : Type} {enc : α → List Value} {e : TypeId} {k : Nat} {w : World} {lo lo' p : Nat} {A : Option Addr} {c : Nat} {l : List α} {F : Nat → Prop} (h : Own enc e k w lo A c l) (hl : Lies F p A c) (hF : ∀ j, F j → lo' ≤ j) : Own enc e k w lo' A c l := by
  obtain ⟨h1, h2, h3⟩ := h
  refine ⟨h1, h2, ?_⟩
  rcases h3 with h3 | ⟨b, off, cur, hA, hlo, hr⟩
  · exact .inl h3
  · rcases hl with hl | hl
    · exact .inl hl
    · exact .inr ⟨b, off, cur, hA, hF _ (hl b off hA).1, hr⟩
/-- a store and an answer, as results -/
def GivesAp (s : Shelf) (a : Ans) (w : World) (e : Ending) (w' : World) : Prop :=
  ∃ PA pc QA qc RA rc HA hc, e = .returned (.tuple #[.agg #[.slice PA s.pairs.length pc, .slice QA s.queue.length qc], .agg #[.int .i64 a.code, .bool a.found, .string a.value, .slice RA a.pairs.length rc, .slice HA a.hits.length hc, .int .u64 0]]) ∧
    ShOwn w' w.heap.size PA pc QA qc s ∧ Own Pair.enc 54 2 w' w.heap.size RA rc a.pairs ∧ Own bit 4 1 w' w.heap.size HA hc a.hits ∧ Below w.heap.size w w'

set_option maxHeartbeats 4000000 in
set_option maxRecDepth 100000 in
theorem apply_plain (s : Shelf) (PA : Option Addr) (pc : Nat) (QA : Option Addr) (qc : Nat) (c : Call0) (g : List Call0) (w : World) (h : ShIn w w.heap.size PA pc QA qc s) (hp : s.pairs.length ≤ 100000) (hq : s.queue.length ≤ 100000) (hc : CallIn w w.heap.size c g)
    (hgood : goodI c g = 0) (h7 : c.kind ≠ 7) (i f : Nat) (hf : Instr.findNow (.int .i64) (.int .i64 c.kind) tableD.toList 0 = some (some (i, .func (.func f) #[] #[]))) (s' : Shelf) (a' : Ans) (hfc : ∀ args W, (callFunc f args).run Tryz.prog W = .ok (.enter f args) W)
    (hdo : ∀ (K : Nat → Prop) (W : World) (p q : Nat), SA K W p q s (ans0 0) → (∀ j, W.heap.size ≤ j → K j) → Calls Tryz.prog f #[.pointer (some ⟨p, 0, none⟩), .agg #[.int .i64 c.kind, .string c.key, .string c.val, .string c.to, .slice c.gA c.gn c.gc], .pointer (some ⟨q, 0, none⟩)] W (GivesDo K p q s' a' W)) :
    Calls Tryz.prog 35 #[.agg #[.slice PA s.pairs.length pc, .slice QA s.queue.length qc], .agg #[.int .i64 c.kind, .string c.key, .string c.val, .string c.to, .slice c.gA c.gn c.gc]] w (GivesAp s' a' w) := by
  have H := hid h
  have HC := hid hc
  have HG := hid hgood
  have HD := hid hdo
  have HF := hid hf
  have HP := hid hp
  have HQ := hid hq
  clear h hc hgood hdo hf hp hq
  go_enter Tryz.func35, Tryz.ntmps35
  go_wp2_with fail
  refine (copied_any s PA pc QA qc _ ?_ (by have := HP.out; omega) (by have := HQ.out; omega)).mono ?_
  · exact (H.out.below (by repeat (first | exact Below.refl _ _ | assumption | refine Below.drew ?_ | refine below_drewN ?_ _ | refine Below.alloc ?_ (by first | omega | (simp; done) | (simp; omega)) _ | refine Below.setCell ?_ (by first | omega | (simp; done) | (simp; omega)) _))).more (by first | omega | (simp; done) | (simp; omega))
  rintro e w1 ⟨A1, c1, A2, c2, rfl, hown, hb1⟩
  obtain ⟨n, hn⟩ : ∃ n, n = w.heap.size := ⟨_, rfl⟩
  have hs1 : n + 4 ≤ w1.heap.size := by have := hb1.size; simp at this; omega
  have bw1 : Below w.heap.size w w1 := Below.trans (by repeat (first | exact Below.refl _ _ | assumption | refine Below.drew ?_ | refine below_drewN ?_ _ | refine Below.alloc ?_ (by first | omega | (simp; done) | (simp; omega)) _ | refine Below.setCell ?_ (by first | omega | (simp; done) | (simp; omega)) _)) (hb1.mono (show w.heap.size ≤ _ from (by first | omega | (simp; done) | (simp; omega))))
  have R1 : w1.heap[n + 1]? = some (.cells #[.int .i64 c.kind, .string c.key, .string c.val, .string c.to, .slice c.gA c.gn c.gc] 46 (0, 0)) := by
    rw [hb1.block _ (by simp; omega), heap_alloc_if, if_neg (by simp; omega), heap_alloc_if, if_neg (by simp; omega), heap_alloc_if, if_pos (by simp; omega)]
  have R2 : w1.heap[n + 2]? = some (.cells #[.slice none 0 0, .slice none 0 0] 25 (0, 0)) := by
    rw [hb1.block _ (by simp; omega), heap_alloc_if, if_neg (by simp; omega), heap_alloc_if, if_pos (by simp; omega)]
  have R3 : w1.heap[n + 3]? = some (.cells #[.int .i64 0, .bool false, .string ByteArray.empty, .slice none 0 0, .slice none 0 0, .int .u64 0] 50 (0, 0)) := by
    rw [hb1.block _ (by simp; omega), heap_alloc_if, if_pos (by simp; omega)]; rfl
  have HO := hid (show ShOwn w1 (n + 4) A1 c1 A2 c2 s from by rw [hn]; simpa using hown)
  clear hown hb1
  obtain ⟨p, hp⟩ : ∃ p, p = w1.heap.size := ⟨_, rfl⟩
  have k0 : w1.cell? ⟨w.heap.size + 1, 0, none⟩ = some (.int .i64 c.kind) := by rw [← hn, cell_of_row w1 _ 0 _ _ _ R1]; rfl
  have k1 : w1.cell? ⟨w.heap.size + 1, 1, none⟩ = some (.string c.key) := by rw [← hn, cell_of_row w1 _ 1 _ _ _ R1]; rfl
  have k2 : w1.cell? ⟨w.heap.size + 1, 2, none⟩ = some (.string c.val) := by rw [← hn, cell_of_row w1 _ 2 _ _ _ R1]; rfl
  have k3 : w1.cell? ⟨w.heap.size + 1, 3, none⟩ = some (.string c.to) := by rw [← hn, cell_of_row w1 _ 3 _ _ _ R1]; rfl
  have k4 : w1.cell? ⟨w.heap.size + 1, 4, none⟩ = some (.slice c.gA c.gn c.gc) := by rw [← hn, cell_of_row w1 _ 4 _ _ _ R1]; rfl
  have hlt : w.heap.size + 1 < w1.heap.size := by omega
  have HN := hid hn
  have HPn := hid hp
  clear hn hp
  go_wp2_with fail
  refine (good_any c g _ ?_).mono ?_
  · exact (HC.out.below (bw1.trans (((Below.refl _ w1).alloc (Nat.le_refl _) _).mono bw1.size))).more (by have := bw1.size; simp; omega)
  rintro e w2 ⟨rfl, hb2⟩
  rw [HG.out]
  have hs2 : w1.heap.size + 1 ≤ w2.heap.size := by have := hb2.size; simpa using this
  have bw2 : Below w1.heap.size w1 w2 := Below.trans (by repeat (first | exact Below.refl _ _ | assumption | refine Below.drew ?_ | refine below_drewN ?_ _ | refine Below.alloc ?_ (by first | omega | (simp; done) | (simp; omega)) _ | refine Below.setCell ?_ (by first | omega | (simp; done) | (simp; omega)) _)) (hb2.mono (show w1.heap.size ≤ _ from (by first | omega | (simp; done) | (simp; omega))))
  have P2 : w2.heap[w1.heap.size]? = some (.cells #[.slice A1 s.pairs.length c1, .slice A2 s.queue.length c2] 25 (0, 0)) := by
    rw [hb2.block _ (by simp), heap_alloc_if, if_pos rfl]
  clear hb2
  go_wp2_with fail
  refine (doings_any _).mono ?_
  rintro e w3 ⟨b, rfl, hb, hmap, hb3⟩
  have hs3 : w2.heap.size + 1 ≤ w3.heap.size := by have := hb3.size; simpa using this
  have hbs : w2.heap.size + 1 ≤ b := by simpa using hb
  have bw3 : Below w2.heap.size w2 w3 := Below.trans (by repeat (first | exact Below.refl _ _ | assumption | refine Below.drew ?_ | refine below_drewN ?_ _ | refine Below.alloc ?_ (by first | omega | (simp; done) | (simp; omega)) _ | refine Below.setCell ?_ (by first | omega | (simp; done) | (simp; omega)) _)) (hb3.mono (show w2.heap.size ≤ _ from (by first | omega | (simp; done) | (simp; omega))))
  have P3 : w3.heap[w1.heap.size]? = some (.cells #[.slice A1 s.pairs.length c1, .slice A2 s.queue.length c2] 25 (0, 0)) := (bw3.block _ (by omega)).trans P2
  have Q3 : w3.heap[w2.heap.size]? = some (.cells #[.int .i64 0, .bool false, .string ByteArray.empty, .slice none 0 0, .slice none 0 0, .int .u64 0] 50 (0, 0)) := by
    rw [hb3.block _ (by simp), heap_alloc_if, if_pos rfl]; rfl
  have bw13 : Below w1.heap.size w1 w3 := bw2.trans (bw3.mono (by omega))
  have k0' := (bw13.cell (p := ⟨w.heap.size + 1, 0, none⟩) hlt).trans k0
  have k1' := (bw13.cell (p := ⟨w.heap.size + 1, 1, none⟩) hlt).trans k1
  have k2' := (bw13.cell (p := ⟨w.heap.size + 1, 2, none⟩) hlt).trans k2
  have k3' := (bw13.cell (p := ⟨w.heap.size + 1, 3, none⟩) hlt).trans k3
  have k4' := (bw13.cell (p := ⟨w.heap.size + 1, 4, none⟩) hlt).trans k4
  have HM := hid hmap
  clear hb3 k0 k1 k2 k3 k4 hb hmap
  go_wp2_with (refine wpList_look _ rfl _ _ _ rfl _ _ b 7 tableD Tryz.underlying95 Tryz.underlying3 rfl c.kind rfl HM.out i _ HF.out ?_)
  have hsa : SA (fun j => n + 4 ≤ j ∧ j ≠ b) w3 w1.heap.size w2.heap.size s (ans0 0) := by
    refine ⟨fun j => n + 4 ≤ j ∧ j < w2.heap.size, fun j => j = w2.heap.size, ⟨A1, c1, A2, c2, P3, ?_, ?_, ?_, ?_⟩, ⟨none, 0, none, 0, Q3, Own.none_, Own.none_, rfl, .inl rfl, .inl rfl, by simp⟩, fun j hj hj' => by omega, fun j hj => by omega, fun j hj => by omega⟩
    · exact ⟨((HO.out.pairs.below bw13).lower (Nat.zero_le _)), ((HO.out.queue.below bw13).lower (Nat.zero_le _)), HO.out.apart⟩
    · omega
    · rcases HO.out.pairs.lt with h0 | ⟨b', o', hA, h1, h2⟩
      · exact .inl h0
      · exact .inr fun b2 o2 hA2 => by rw [hA] at hA2; cases hA2; exact ⟨⟨h1, by omega⟩, by omega⟩
    · rcases HO.out.queue.lt with h0 | ⟨b', o', hA, h1, h2⟩
      · exact .inl h0
      · exact .inr fun b2 o2 hA2 => by rw [hA] at hA2; cases hA2; exact ⟨⟨h1, by omega⟩, by omega⟩
  have hbl : b < w3.heap.size := lt_of_heap HM.out
  refine (HD.out _ w3 _ _ hsa fun j hj => ⟨by omega, by omega⟩).mono ?_
  rintro e w4 ⟨rfl, hsa4, hon⟩
  have hnn := HN.out
  have R24 : w4.heap[w.heap.size + 1 + 1]? = some (.cells #[.slice none 0 0, .slice none 0 0] 25 (0, 0)) := by
    rw [show w.heap.size + 1 + 1 = n + 2 by omega, hon.block _ (by omega) (by omega), bw13.block _ (by omega)]; exact R2
  have R34 : w4.heap[w.heap.size + 1 + 1 + 1]? = some (.cells #[.int .i64 0, .bool false, .string ByteArray.empty, .slice none 0 0, .slice none 0 0, .int .u64 0] 50 (0, 0)) := by
    rw [show w.heap.size + 1 + 1 + 1 = n + 3 by omega, hon.block _ (by omega) (by omega), bw13.block _ (by omega)]; exact R3
  obtain ⟨F, G, ⟨P', pc', Q', qc', p1, p2, p3, p4, p5⟩, ⟨RA, rc, HA, hc, q1, q2, q3, q4, q5, q6, q7⟩, hFG, hFK, hGK⟩ := hsa4
  have f20 := frozen_of_row w4 (w.heap.size + 1 + 1) 0 _ _ R24
  have f21 := frozen_of_row w4 (w.heap.size + 1 + 1) 1 _ _ R24
  have f30 := frozen_of_row w4 (w.heap.size + 1 + 1 + 1) 0 _ _ R34
  have f31 := frozen_of_row w4 (w.heap.size + 1 + 1 + 1) 1 _ _ R34
  have f32 := frozen_of_row w4 (w.heap.size + 1 + 1 + 1) 2 _ _ R34
  have f33 := frozen_of_row w4 (w.heap.size + 1 + 1 + 1) 3 _ _ R34
  have f34 := frozen_of_row w4 (w.heap.size + 1 + 1 + 1) 4 _ _ R34
  have f35 := frozen_of_row w4 (w.heap.size + 1 + 1 + 1) 5 _ _ R34
  have v20 := cell_of_row w4 (w.heap.size + 1 + 1) 0 _ _ _ R24
  have v21 := cell_of_row w4 (w.heap.size + 1 + 1) 1 _ _ _ R24
  have v30 := cell_of_row w4 (w.heap.size + 1 + 1 + 1) 0 _ _ _ R34
  have v31 := cell_of_row w4 (w.heap.size + 1 + 1 + 1) 1 _ _ _ R34
  have v32 := cell_of_row w4 (w.heap.size + 1 + 1 + 1) 2 _ _ _ R34
  have v33 := cell_of_row w4 (w.heap.size + 1 + 1 + 1) 3 _ _ _ R34
  have v34 := cell_of_row w4 (w.heap.size + 1 + 1 + 1) 4 _ _ _ R34
  have v35 := cell_of_row w4 (w.heap.size + 1 + 1 + 1) 5 _ _ _ R34
  have x0 := cell_of_row w4 w1.heap.size 0 _ _ _ p1
  have x1 := cell_of_row w4 w1.heap.size 1 _ _ _ p1
  have y0 := cell_of_row w4 w2.heap.size 0 _ _ _ q1
  have y1 := cell_of_row w4 w2.heap.size 1 _ _ _ q1
  have y2 := cell_of_row w4 w2.heap.size 2 _ _ _ q1
  have y3 := cell_of_row w4 w2.heap.size 3 _ _ _ q1
  have y4 := cell_of_row w4 w2.heap.size 4 _ _ _ q1
  have y5 := cell_of_row w4 w2.heap.size 5 _ _ _ q1
  simp only [List.getElem?_toArray, List.getElem?_cons_zero, List.getElem?_cons_succ] at v20 v21 v30 v31 v32 v33 v34 v35 x0 x1 y0 y1 y2 y3 y4 y5
  have n1 : ¬ (w.heap.size + 1 + 1 = w1.heap.size) := by omega
  have n2 : ¬ (w.heap.size + 1 + 1 = w2.heap.size) := by omega
  have n3 : ¬ (w.heap.size + 1 + 1 + 1 = w1.heap.size) := by omega
  have n4 : ¬ (w.heap.size + 1 + 1 + 1 = w2.heap.size) := by omega
  clear hnn
  go_wp2_with fail
  go_region
  go_wp2_with fail
  have hnn := HN.out
  have hb4 : Below w.heap.size w w4 := (bw1.trans (bw13.mono (by omega))).trans (hon.below (lo := w.heap.size) (fun j hj => by omega) (by omega))
  refine bodyPost_ret (v := .tuple #[.agg #[.slice P' s'.pairs.length pc', .slice Q' s'.queue.length qc'], .agg #[.int .i64 a'.code, .bool a'.found, .string a'.value, .slice RA a'.pairs.length rc, .slice HA a'.hits.length hc, .int .u64 0]])
    (by simp [results, Tryz.results35, go_sem, v20, v21, v30, v31, v32, v33, v34, v35]) rfl ⟨P', pc', Q', qc', RA, rc, HA, hc, rfl, ⟨?_, ?_, p2.apart⟩, ?_, ?_, ?_⟩
  · exact Own.lower (Own.drew (((((((((p2.pairs.raise p4 (lo' := n + 4) fun j hj => (hFK j hj).1).setCell (by show w.heap.size + 1 + 1 < n + 4; omega) _).setCell (by show w.heap.size + 1 + 1 < n + 4; omega) _).setCell (by show w.heap.size + 1 + 1 + 1 < n + 4; omega) _).setCell (by show w.heap.size + 1 + 1 + 1 < n + 4; omega) _).setCell (by show w.heap.size + 1 + 1 + 1 < n + 4; omega) _).setCell (by show w.heap.size + 1 + 1 + 1 < n + 4; omega) _).setCell (by show w.heap.size + 1 + 1 + 1 < n + 4; omega) _).setCell (by show w.heap.size + 1 + 1 + 1 < n + 4; omega) _)) (by omega)
  · exact Own.lower (Own.drew (((((((((p2.queue.raise p5 (lo' := n + 4) fun j hj => (hFK j hj).1).setCell (by show w.heap.size + 1 + 1 < n + 4; omega) _).setCell (by show w.heap.size + 1 + 1 < n + 4; omega) _).setCell (by show w.heap.size + 1 + 1 + 1 < n + 4; omega) _).setCell (by show w.heap.size + 1 + 1 + 1 < n + 4; omega) _).setCell (by show w.heap.size + 1 + 1 + 1 < n + 4; omega) _).setCell (by show w.heap.size + 1 + 1 + 1 < n + 4; omega) _).setCell (by show w.heap.size + 1 + 1 + 1 < n + 4; omega) _).setCell (by show w.heap.size + 1 + 1 + 1 < n + 4; omega) _)) (by omega)
  · exact Own.lower (Own.drew (((((((((q2.raise q5 (lo' := n + 4) fun j hj => (hGK j hj).1).setCell (by show w.heap.size + 1 + 1 < n + 4; omega) _).setCell (by show w.heap.size + 1 + 1 < n + 4; omega) _).setCell (by show w.heap.size + 1 + 1 + 1 < n + 4; omega) _).setCell (by show w.heap.size + 1 + 1 + 1 < n + 4; omega) _).setCell (by show w.heap.size + 1 + 1 + 1 < n + 4; omega) _).setCell (by show w.heap.size + 1 + 1 + 1 < n + 4; omega) _).setCell (by show w.heap.size + 1 + 1 + 1 < n + 4; omega) _).setCell (by show w.heap.size + 1 + 1 + 1 < n + 4; omega) _)) (by omega)
  · exact Own.lower (Own.drew (((((((((q3.raise q6 (lo' := n + 4) fun j hj => (hGK j hj).1).setCell (by show w.heap.size + 1 + 1 < n + 4; omega) _).setCell (by show w.heap.size + 1 + 1 < n + 4; omega) _).setCell (by show w.heap.size + 1 + 1 + 1 < n + 4; omega) _).setCell (by show w.heap.size + 1 + 1 + 1 < n + 4; omega) _).setCell (by show w.heap.size + 1 + 1 + 1 < n + 4; omega) _).setCell (by show w.heap.size + 1 + 1 + 1 < n + 4; omega) _).setCell (by show w.heap.size + 1 + 1 + 1 < n + 4; omega) _).setCell (by show w.heap.size + 1 + 1 + 1 < n + 4; omega) _)) (by omega)
  · exact ((((((((hb4.setCell (by show w.heap.size ≤ w.heap.size + 1 + 1; omega) _).setCell (by show w.heap.size ≤ w.heap.size + 1 + 1; omega) _).setCell (by show w.heap.size ≤ w.heap.size + 1 + 1 + 1; omega) _).setCell (by show w.heap.size ≤ w.heap.size + 1 + 1 + 1; omega) _).setCell (by show w.heap.size ≤ w.heap.size + 1 + 1 + 1; omega) _).setCell (by show w.heap.size ≤ w.heap.size + 1 + 1 + 1; omega) _).setCell (by show w.heap.size ≤ w.heap.size + 1 + 1 + 1; omega) _).setCell (by show w.heap.size ≤ w.heap.size + 1 + 1 + 1; omega) _).drew
theorem Arr.txt1 {w : World} {B : Nat} {A : Option Addr} {l : List ByteArray} (h : Arr txt 1 w B A l) {i : Nat} (hi : i < l.length) : ∃ b off, A = some ⟨b, off, none⟩ ∧ b < B ∧ w.cell? ⟨b, off + i, none⟩ = some (.string l[i]) := by
  rcases h with h | ⟨b, off, hA, hB, hc⟩
  · subst h; simp at hi
  · exact ⟨b, off, hA, hB, by simpa using hc i hi 0 _ rfl⟩
end Go.Proofs.YtamcehfcjcmpmaaGreatDoor
