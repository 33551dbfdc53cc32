/- strings.Compare; an answer's lists set anew. -/
import Derived.Test.YtamcehfcjcmpmaaDoorIdl9
import Derived.Lib.Bytealg
import Derived.Laws.Externs
namespace Go.Proofs.YtamcehfcjcmpmaaDoor
open Go.RowKit

def cmpB (a b : ByteArray) : Int := Lib.compareBytes a.data.toList b.data.toList
set_option maxHeartbeats 1000000 in
set_option maxRecDepth 100000 in
theorem cmp_bytealg (a b : ByteArray) (w : World) : Calls Tryd.prog 70 #[.string a, .string b] w fun e w' => e = .returned (.int .i64 (cmpB a b)) ∧ w = w' := by
  go_enter Tryd.func70, Tryd.ntmps70
  go_wp2
  rw [run_callFunc_extern Tryd.func73 (by kernel_rfl) (by kernel_rfl) (by kernel_rfl) (e := Extern.BytealgCompare.compare) (by kernel_rfl), Lib.run_compareString]
  simp only [Result.andThen]
  rw [Oper.upon_value]
  go_wp2
  go_ret
  exact ⟨rfl, rfl⟩
theorem cmp_any (a b : ByteArray) (w : World) : Calls Tryd.prog 61 #[.string a, .string b] w fun e w' => e = .returned (.int .i64 (cmpB a b)) ∧ w = w' := by
  go_enter Tryd.func61, Tryd.ntmps61
  go_wp2_with (go_at_call 70; refine (cmp_bytealg a b _).mono ?_; rintro e w' ⟨rfl, rfl⟩)
  go_ret
  exact ⟨rfl, rfl⟩

/-- an answer whose pairs are set anew -/
theorem AnsAt.putPairs {G : Nat → Prop} {q : Nat} {a : Ans} {w2 W w3 : World} {RA : Option Addr} {rc : Nat} {HA : Option Addr} {hc : Nat} {A' : Option Addr} {c' n : Nat} {l' : List Pair}
    (h1 : w2.heap[q]? = some (.cells #[.int .i64 a.code, .bool a.found, .string a.value, .slice RA a.pairs.length rc, .slice HA a.hits.length hc, .int .u64 0] 40 (0, 0))) (h2 : Own Pair.enc 53 2 w2 0 RA rc a.pairs) (h3 : Own bit 4 1 w2 0 HA hc a.hits) (h4 : G q) (h5 : Lies G q RA rc) (h6 : Lies G q HA hc)
    (h7 : ∀ b o b' o', RA = some ⟨b, o, none⟩ → HA = some ⟨b', o', none⟩ → rc = 0 ∨ hc = 0 ∨ b ≠ b')
    (hG : ∀ j, w2.heap.size ≤ j → G j) (hW : Below w2.heap.size w2 W) (hgr : W.grownBy w3 (rowOf RA rc)) (hown : Own Pair.enc 53 2 w3 0 A' c' l') (hloc : A' = RA ∧ c' = rc ∨ ∃ g, A' = some ⟨g, 0, none⟩ ∧ W.heap.size ≤ g) (hn : n = l'.length) :
    AnsAt G (w3.setCell ⟨q, 3, none⟩ (.slice A' n c')) q { a with pairs := l' } ∧ Only G w2 (w3.setCell ⟨q, 3, none⟩ (.slice A' n c')) := by
  subst hn
  have hq := lt_of_heap h1
  have hWs := hW.size
  have hrow := h2.row h5
  have hon : Only G w2 w3 := (Only.of_below hW).trans (Only.grown hgr fun j hj => (hrow j hj).1)
  have hq3 : w3.heap[q]? = some (.cells #[.int .i64 a.code, .bool a.found, .string a.value, .slice RA a.pairs.length rc, .slice HA a.hits.length hc, .int .u64 0] 40 (0, 0)) := ((hgr.block q (by omega) fun hr => (hrow q hr.symm).2 rfl).trans (hW.block q hq)).trans h1
  have hlies : Lies G q A' c' := by
    rcases hloc with ⟨rfl, rfl⟩ | ⟨g, rfl, hg⟩
    · exact h5
    · exact .inr fun b o hA => by cases hA; exact ⟨hG _ (by omega), by omega⟩
  have hother : Own bit 4 1 (w3.setCell ⟨q, 3, none⟩ (.slice A' l'.length c')) 0 HA hc a.hits := by
    refine Own.keep2 (h3.keep2 (w' := w3) ?_) (h6.imp id fun h b o hA _ => Below.heap_setCell _ _ _ _ (h b o hA).2)
    by_cases h0 : hc = 0
    · exact .inl h0
    · refine .inr fun b o hA hlt => (hgr.block b (by omega) fun hr => ?_).trans (hW.block b hlt)
      unfold rowOf at hr
      split at hr
      · cases hr
      · rcases h2.2.2 with h9 | ⟨b', off', _, hPA, _⟩
        · exact absurd h9 ‹_›
        · subst hPA
          simp at hr
          rcases h7 b' off' b o rfl hA with h | h | h
          · exact absurd h ‹_›
          · exact absurd h ‹_›
          · first | exact h hr.symm | exact h hr
  have hmine := hown.keep2 (w' := w3.setCell ⟨q, 3, none⟩ (.slice A' l'.length c')) (hlies.imp id fun h b o hA _ => Below.heap_setCell _ _ _ _ (h b o hA).2)
  have hrow' : (w3.setCell ⟨q, 3, none⟩ (.slice A' l'.length c')).heap[q]? = _ := heap_setCell_same w3 q 3 _ _ _ hq3
  refine ⟨⟨A', c', HA, hc, ?_, hmine, hother, h4, hlies, h6, ?_⟩, hon.setCell _ _ h4⟩
  · rw [hrow']; rfl
  · rcases hloc with ⟨rfl, rfl⟩ | ⟨g, rfl, hg⟩
    · exact h7
    · intro b o b' o' hA hB
      cases hA
      rcases h3.lt with h0 | ⟨b2, o2, hQ, _, hlt⟩
      · exact .inr (.inl h0)
      · rw [hQ] at hB
        cases hB
        exact .inr (.inr (by omega))
/-- an answer whose hits are set anew -/
theorem AnsAt.putHits {G : Nat → Prop} {q : Nat} {a : Ans} {w2 W w3 : World} {RA : Option Addr} {rc : Nat} {HA : Option Addr} {hc : Nat} {A' : Option Addr} {c' n : Nat} {l' : List Bool}
    (h1 : w2.heap[q]? = some (.cells #[.int .i64 a.code, .bool a.found, .string a.value, .slice RA a.pairs.length rc, .slice HA a.hits.length hc, .int .u64 0] 40 (0, 0))) (h2 : Own Pair.enc 53 2 w2 0 RA rc a.pairs) (h3 : Own bit 4 1 w2 0 HA hc a.hits) (h4 : G q) (h5 : Lies G q RA rc) (h6 : Lies G q HA hc)
    (h7 : ∀ b o b' o', RA = some ⟨b, o, none⟩ → HA = some ⟨b', o', none⟩ → rc = 0 ∨ hc = 0 ∨ b ≠ b')
    (hG : ∀ j, w2.heap.size ≤ j → G j) (hW : Below w2.heap.size w2 W) (hgr : W.grownBy w3 (rowOf HA hc)) (hown : Own bit 4 1 w3 0 A' c' l') (hloc : A' = HA ∧ c' = hc ∨ ∃ g, A' = some ⟨g, 0, none⟩ ∧ W.heap.size ≤ g) (hn : n = l'.length) :
    AnsAt G (w3.setCell ⟨q, 4, none⟩ (.slice A' n c')) q { a with hits := l' } ∧ Only G w2 (w3.setCell ⟨q, 4, none⟩ (.slice A' n c')) := by
  subst hn
  have hq := lt_of_heap h1
  have hWs := hW.size
  have hrow := h3.row h6
  have hon : Only G w2 w3 := (Only.of_below hW).trans (Only.grown hgr fun j hj => (hrow j hj).1)
  have hq3 : w3.heap[q]? = some (.cells #[.int .i64 a.code, .bool a.found, .string a.value, .slice RA a.pairs.length rc, .slice HA a.hits.length hc, .int .u64 0] 40 (0, 0)) := ((hgr.block q (by omega) fun hr => (hrow q hr.symm).2 rfl).trans (hW.block q hq)).trans h1
  have hlies : Lies G q A' c' := by
    rcases hloc with ⟨rfl, rfl⟩ | ⟨g, rfl, hg⟩
    · exact h6
    · exact .inr fun b o hA => by cases hA; exact ⟨hG _ (by omega), by omega⟩
  have hother : Own Pair.enc 53 2 (w3.setCell ⟨q, 4, none⟩ (.slice A' l'.length c')) 0 RA rc a.pairs := by
    refine Own.keep2 (h2.keep2 (w' := w3) ?_) (h5.imp id fun h b o hA _ => Below.heap_setCell _ _ _ _ (h b o hA).2)
    by_cases h0 : rc = 0
    · exact .inl h0
    · refine .inr fun b o hA hlt => (hgr.block b (by omega) fun hr => ?_).trans (hW.block b hlt)
      unfold rowOf at hr
      split at hr
      · cases hr
      · rcases h3.2.2 with h9 | ⟨b', off', _, hPA, _⟩
        · exact absurd h9 ‹_›
        · subst hPA
          simp at hr
          rcases h7 b o b' off' hA rfl with h | h | h
          · exact absurd h ‹_›
          · exact absurd h ‹_›
          · first | exact h hr.symm | exact h hr
  have hmine := hown.keep2 (w' := w3.setCell ⟨q, 4, none⟩ (.slice A' l'.length c')) (hlies.imp id fun h b o hA _ => Below.heap_setCell _ _ _ _ (h b o hA).2)
  have hrow' : (w3.setCell ⟨q, 4, none⟩ (.slice A' l'.length c')).heap[q]? = _ := heap_setCell_same w3 q 4 _ _ _ hq3
  refine ⟨⟨RA, rc, A', c', ?_, hother, hmine, h4, h5, hlies, ?_⟩, hon.setCell _ _ h4⟩
  · rw [hrow']; rfl
  · rcases hloc with ⟨rfl, rfl⟩ | ⟨g, rfl, hg⟩
    · exact h7
    · intro b o b' o' hA hB
      cases hB
      rcases h2.lt with h0 | ⟨b2, o2, hQ, _, hlt⟩
      · exact .inl h0
      · rw [hQ] at hA
        cases hA
        exact .inr (.inr (by omega))
end Go.Proofs.YtamcehfcjcmpmaaDoor
