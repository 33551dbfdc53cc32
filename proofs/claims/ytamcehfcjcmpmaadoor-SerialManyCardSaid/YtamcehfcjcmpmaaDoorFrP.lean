/- The least row; how large a store grows while it is looked for. Plain facts; no program is walked. -/
import Derived.Test.YtamcehfcjcmpmaaDoorStMap
import Derived.Lib.ItoaLen
namespace Go.Proofs.YtamcehfcjcmpmaaDoor
open Go.RowKit

/-- the least row that leads to the end -/
inductive Least (L : List Item) (must : Nat) : Nat → Shelf → List Nat → Prop
  | fin {d S} : d &&& must = must → Least L must d S []
  | step {d S i R} (h : i < L.length) : ¬ d &&& must = must → (∀ j, j < i → ¬ LeadsBy L must d S j) → freeAt L d i → L[i].ok S = true → Least L must (d ||| 1 <<< i) (L[i].next S) R → Least L must d S (i :: R)
theorem Least.path {L : List Item} {must d : Nat} {S : Shelf} {R : List Nat} (h : Least L must d S R) : Path L must d S R := by
  induction h with
  | fin h => exact .fin h
  | step h _ _ h3 h4 _ ih => exact .step h h3 h4 ih
theorem Least.leads {L : List Item} {must d : Nat} {S : Shelf} {R : List Nat} (h : Least L must d S R) : Leads L must d S := ⟨R, h.path⟩
/-- a store that is no larger than a search may make it -/
structure Small (S : Shelf) (k : Nat) : Prop where
  pl : S.pairs.length ≤ 100 + 4 * k
  ql : S.queue.length ≤ 100 + 4 * k
  pk : ∀ p ∈ S.pairs, p.key.size ≤ 1000 ∧ p.val.size ≤ 1000
  qs : ∀ q ∈ S.queue, q.size ≤ 1000
theorem setP_all {Q : Pair → Prop} {l : List Pair} {key val : ByteArray} (h : ∀ p ∈ l, Q p) (hn : Q ⟨key, val⟩) (hm : ∀ p ∈ l, Q ⟨p.key, val⟩) : ∀ p ∈ setP l key val, Q p := by
  intro p hp
  unfold setP at hp
  split at hp
  · obtain ⟨i, hi, rfl⟩ := List.getElem_of_mem hp
    rw [List.getElem_modify]
    rw [List.length_modify] at hi
    split
    · exact hm _ (List.getElem_mem hi)
    · exact h _ (List.getElem_mem hi)
  · unfold ins at hp
    rcases List.mem_append.1 hp with h1 | h1
    · exact h p (List.mem_of_mem_take h1)
    · rcases List.mem_cons.1 h1 with rfl | h2
      · exact hn
      · exact h p (List.mem_of_mem_drop h2)
theorem Small.doS {c : Call0} {S : Shelf} {k : Nat} (h : Small S k) (hc : flatLong c = false) : (doS c S).pairs.length ≤ S.pairs.length + 1 ∧ (doS c S).queue.length ≤ S.queue.length + 1 ∧ (∀ p ∈ (doS c S).pairs, p.key.size ≤ 1000 ∧ p.val.size ≤ 1000) ∧ ∀ q ∈ (doS c S).queue, q.size ≤ 1000 := by
  refine ⟨(doS_len c S).1, (doS_len c S).2, ?_, ?_⟩
  · unfold Go.Proofs.YtamcehfcjcmpmaaDoor.doS
    split
    · rename_i h2
      have hs : c.key.size ≤ 1000 ∧ c.val.size ≤ 1000 := by
        unfold flatLong at hc
        rw [if_neg (by omega), if_pos h2] at hc
        simp at hc
        omega
      exact setP_all h.pk hs fun p hp => ⟨(h.pk p hp).1, hs.2⟩
    · split
      · intro p hp
        exact h.pk p (List.mem_filter.1 hp).1
      · split
        · exact h.pk
        · split
          · exact h.pk
          · exact h.pk
  · unfold Go.Proofs.YtamcehfcjcmpmaaDoor.doS
    split
    · exact h.qs
    · split
      · exact h.qs
      · split
        · rename_i h4
          have hs : c.val.size ≤ 1000 := by
            unfold flatLong at hc
            rw [if_neg (by omega), if_neg (by omega), if_pos h4] at hc
            simp at hc
            omega
          intro q hq
          rcases List.mem_append.1 hq with h1 | h1
          · exact h.qs q h1
          · rw [List.mem_singleton] at h1
            subst h1
            exact hs
        · split
          · intro q hq
            exact h.qs q (List.mem_of_mem_tail hq)
          · exact h.qs
theorem small_all : ∀ (g : List Call0) {S : Shelf} {k : Nat} {n : Nat}, (∀ x ∈ g, flatLong x = false) → S.pairs.length ≤ n → S.queue.length ≤ n → (∀ p ∈ S.pairs, p.key.size ≤ 1000 ∧ p.val.size ≤ 1000) → (∀ q ∈ S.queue, q.size ≤ 1000) → n + g.length ≤ 100 + 4 * k → Small (doAll g S) k
  | [], S, k, n, _, h1, h2, h3, h4, hn => ⟨by simp at hn; show S.pairs.length ≤ _; omega, by simp at hn; show S.queue.length ≤ _; omega, h3, h4⟩
  | x :: g, S, k, n, hg, h1, h2, h3, h4, hn => by
    obtain ⟨a1, a2, a3, a4⟩ := Small.doS (k := S.pairs.length + S.queue.length) (S := S) ⟨by omega, by omega, h3, h4⟩ (hg x (by simp))
    simp only [List.length_cons] at hn
    exact small_all g (S := doS x S) (n := n + 1) (fun y hy => hg y (by simp [hy])) (by omega) (by omega) a3 a4 (by omega)
theorem goodI_long {c : Call0} {g : List Call0} (h : goodI c g = 0) : longB c g = false ∧ shapeB c g = true := by
  unfold goodI at h
  split at h
  · cases h
  · split at h
    · cases h
    · simp_all
theorem Small.next {c : Call0} {g : List Call0} {S : Shelf} {k : Nat} (h : Small S k) : Small (apS c g S) (k + 1) := by
  unfold apS
  split
  · rename_i hg
    obtain ⟨hl, hs⟩ := goodI_long hg
    split
    · rename_i h7
      have hlen : g.length ≤ 3 := by
        unfold shapeB at hs
        split at hs
        · cases hs
        · split at hs
          · cases hs
          · split at hs
            · omega
            · split at hs
              · cases hs
              · omega
      rw [longB, if_pos h7, List.any_eq_false] at hl
      exact small_all g (n := 100 + 4 * k) (fun x hx => by simpa using hl x hx) h.pl h.ql h.pk h.qs (by omega)
    · rename_i h7
      rw [longB, if_neg h7] at hl
      obtain ⟨a1, a2, a3, a4⟩ := h.doS hl
      exact ⟨by have := h.pl; omega, by have := h.ql; omega, a3, a4⟩
  · exact ⟨by have := h.pl; omega, by have := h.ql; omega, h.pk, h.qs⟩
theorem flat_le {α : Type} {f : α → List UInt8} {n : Nat} : ∀ {l : List α}, (∀ x ∈ l, (f x).length ≤ n) → (l.flatMap f).length ≤ l.length * n
  | [], _ => by simp
  | x :: l, h => by
    have h1 := h x (by simp)
    have h2 := flat_le (f := f) (n := n) (l := l) fun y hy => h y (by simp [hy])
    simp only [List.flatMap_cons, List.length_append, List.length_cons, Nat.succ_mul]
    omega
theorem item_le {x : ByteArray} (h : x.size ≤ 1000) : (txtItem x).length ≤ 1023 := by
  have h1 := Lib.itoa_length_le (x.size : Int) (by omega) (by omega)
  have h2 : (bytesOf x).length = x.size := bytesOf_len x
  simp only [txtItem, List.length_cons, List.length_append]
  omega
theorem Small.text {S : Shelf} {k : Nat} (h : Small S k) (hk : k ≤ 20) : (textL S).length ≤ 10000000 := by
  have h1 := Lib.itoa_length_le (S.pairs.length : Int) (by omega) (by have := h.pl; omega)
  have h2 : (pairsL S.pairs).length ≤ S.pairs.length * 2046 := flat_le fun p hp => by
    have a := item_le (h.pk p hp).1
    have b := item_le (h.pk p hp).2
    rw [List.length_append]
    omega
  have h3 : (queueL S.queue).length ≤ S.queue.length * 1023 := flat_le fun q hq => item_le (h.qs q hq)
  have h4 := h.pl
  have h5 := h.ql
  simp only [textL, List.length_append]
  omega
theorem Small.pairs_le {S : Shelf} {k : Nat} (h : Small S k) (hk : k ≤ 20) : S.pairs.length ≤ 90000 ∧ S.queue.length ≤ 90000 := by
  have h4 := h.pl
  have h5 := h.ql
  omega
end Go.Proofs.YtamcehfcjcmpmaaDoor
