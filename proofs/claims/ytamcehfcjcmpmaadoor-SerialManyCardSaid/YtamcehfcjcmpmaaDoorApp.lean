/- What a call does to a store and answers, groups too; what becomes of a store that rises. Plain facts; no program is named. -/
import Derived.Test.YtamcehfcjcmpmaaDoorIdl15
import Derived.Test.YtamcehfcjcmpmaaDoorKeys
namespace Go.Proofs.YtamcehfcjcmpmaaDoor
open Go.RowKit

def doAll (g : List Call0) (s : Shelf) : Shelf := g.foldl (fun s x => doS x s) s
def hitsOf : List Call0 → Shelf → List Bool
  | [], _ => []
  | x :: g, s => (doA x s (ans0 0)).found :: hitsOf g (doS x s)
def apS (c : Call0) (g : List Call0) (s : Shelf) : Shelf := if goodI c g = 0 then (if c.kind = 7 then doAll g s else doS c s) else s
def apA (c : Call0) (g : List Call0) (s : Shelf) : Ans := if goodI c g = 0 then (if c.kind = 7 then { ans0 0 with hits := hitsOf g s } else doA c s (ans0 0)) else ans0 (goodI c g)
theorem doAll_append (a b : List Call0) (s : Shelf) : doAll (a ++ b) s = doAll b (doAll a s) := by simp [doAll, List.foldl_append]
theorem hitsOf_append : ∀ (a b : List Call0) (s : Shelf), hitsOf (a ++ b) s = hitsOf a s ++ hitsOf b (doAll a s)
  | [], _, _ => rfl
  | x :: a, b, s => by
    rw [List.cons_append, hitsOf, hitsOf, hitsOf_append a b]
    rfl
theorem hitsOf_len : ∀ (a : List Call0) (s : Shelf), (hitsOf a s).length = a.length
  | [], _ => rfl
  | x :: a, s => by rw [hitsOf, List.length_cons, hitsOf_len a, List.length_cons]
theorem doAll_succ {g : List Call0} {k : Nat} (hk : k < g.length) (s : Shelf) : doAll (g.take (k + 1)) s = doS g[k] (doAll (g.take k) s) := by
  rw [List.take_succ_eq_append_getElem hk, doAll_append]; rfl
theorem hitsOf_succ {g : List Call0} {k : Nat} (hk : k < g.length) (s : Shelf) : hitsOf (g.take (k + 1)) s = hitsOf (g.take k) s ++ [(doA g[k] (doAll (g.take k) s) (ans0 0)).found] := by
  rw [List.take_succ_eq_append_getElem hk, hitsOf_append]; rfl
theorem hitsOf_get {g : List Call0} {k : Nat} (hk : k < g.length) (s : Shelf) : (hitsOf g s)[k]? = some (doA g[k] (doAll (g.take k) s) (ans0 0)).found := by
  have h := List.take_append_drop k g
  rw [List.drop_eq_getElem_cons hk] at h
  have h2 : hitsOf g s = hitsOf (g.take k) s ++ (doA g[k] (doAll (g.take k) s) (ans0 0)).found :: hitsOf (g.drop (k + 1)) (doS g[k] (doAll (g.take k) s)) := by
    conv => lhs; rw [← h, hitsOf_append]
    rfl
  have hl : (hitsOf (g.take k) s).length = k := by rw [hitsOf_len, List.length_take]; omega
  rw [h2, List.getElem?_append_right (by omega), hl, Nat.sub_self]
  rfl
theorem doS_len (c : Call0) (s : Shelf) : (doS c s).pairs.length ≤ s.pairs.length + 1 ∧ (doS c s).queue.length ≤ s.queue.length + 1 := by
  have h1 := setP_len s.pairs c.key c.val
  have h2 := dropK_le s.pairs c.key
  unfold doS
  repeat' split
  all_goals (refine ⟨?_, ?_⟩ <;> first | omega | (simp; done) | (simp; omega))
theorem doAll_len : ∀ (g : List Call0) (s : Shelf), (doAll g s).pairs.length ≤ s.pairs.length + g.length ∧ (doAll g s).queue.length ≤ s.queue.length + g.length
  | [], s => ⟨Nat.le_refl _, Nat.le_refl _⟩
  | x :: g, s => by
    have h := doAll_len g (doS x s)
    have h1 := doS_len x s
    simp only [List.length_cons]
    have e : doAll (x :: g) s = doAll g (doS x s) := rfl
    rw [e]
    omega
theorem grp_kind {c : Call0} {g : List Call0} (h : goodI c g = 0) (h7 : c.kind = 7) : ∀ x ∈ g, groupedB x.kind = true := by
  unfold goodI at h
  split at h
  · cases h
  · rename_i hs
    exact shape_flat (by simpa using hs) h7
theorem grouped_cases {k : Int} (h : groupedB k = true) : k = 2 ∨ k = 3 ∨ k = 4 := by
  unfold groupedB at h
  simp only [Bool.or_eq_true, beq_iff_eq] at h
  omega
theorem grp_good {c : Call0} {g : List Call0} (h : goodI c g = 0) (h7 : c.kind = 7) : ∀ x ∈ g, ∀ gx, goodI x gx = 0 := by
  intro x hx gx
  have hk := grp_kind h h7 x hx
  have hk3 := grouped_cases hk
  unfold goodI at h
  split at h
  · cases h
  rename_i hs
  split at h
  · cases h
  rename_i hl
  have hl' : flatLong x = false := by
    rw [Bool.not_eq_true, longB, if_pos h7, List.any_eq_false] at hl
    simpa using hl x hx
  have he : elemBad x = false := by
    rw [Bool.not_eq_false, shapeB] at hs
    obtain ⟨i, hi, rfl⟩ := List.getElem_of_mem hx
    cases e : elemBad g[i] with
    | false => rfl
    | true => have := groupOk_bad hi e; simp_all
  have hsx : shapeB x gx = true := by
    unfold elemBad at he
    rw [Bool.or_eq_false_iff] at he
    have h7x := grouped_not7 hk
    unfold shapeB
    rcases hk3 with e | e | e <;> simp_all [keyedB, groupedB]
  have hlx : longB x gx = false := by rw [longB, if_neg (grouped_not7 hk)]; exact hl'
  unfold goodI
  rw [hsx, hlx]
  rfl
theorem mayB_doS {c : Call0} {s : Shelf} (h : mayB s.pairs = true) : mayB (doS c s).pairs = true := by
  unfold doS
  repeat' split
  all_goals first | exact h | exact mayB_set h | exact mayB_drop h
theorem mayB_doAll : ∀ (g : List Call0) {s : Shelf}, mayB s.pairs = true → mayB (doAll g s).pairs = true
  | [], _, h => h
  | x :: g, _s, h => mayB_doAll g (mayB_doS (c := x) h)
theorem mayB_apS {c : Call0} {g : List Call0} {s : Shelf} (h : mayB s.pairs = true) : mayB (apS c g s).pairs = true := by
  unfold apS
  repeat' split
  · exact mayB_doAll g h
  · exact mayB_doS h
  · exact h
theorem apA_code (c : Call0) (g : List Call0) (s : Shelf) : (apA c g s).code = goodI c g := by
  unfold apA
  repeat' split
  · exact (by assumption : goodI c g = 0).symm
  · rename_i h _
    rw [h]
    unfold doA
    repeat' split
    all_goals rfl
  · rfl
end Go.Proofs.YtamcehfcjcmpmaaDoor
