/- What a search in memory is, and what stays as it was while it goes on: all but its own box, its map, and rows of numbers. -/
import Derived.Test.YtamcehfcjcmpmaaGreatDoorStMap
import Derived.Lib.ItoaLen
import Derived.Test.YtamcehfcjcmpmaaGreatDoorBgn
/- The least row; how large a store grows while it is looked for. Plain facts; no program is walked. -/
namespace Go.Proofs.YtamcehfcjcmpmaaGreatDoor
open Go.RowKit

/-- the least row that leads to the end -/
inductive Least (L : List Item) (must : Nat) : Nat → Shelf → List Nat → Prop
  | fin {d S} : d &&& must = must → Least L must d S []
  | step {d S i R} (h : i < L.length) : ¬ d &&& must = must → (∀ j, j < i → ¬ LeadsBy L must d S j) → freeAt L d i → L[i].ok S = true → Least L must (d ||| 1 <<< i) (L[i].next S) R → Least L must d S (i :: R)
theorem Least.path {L : List Item} {must d : Nat} {S : Shelf} {R : List Nat} (h : Least L must d S R) : Path L must d S R := by
  induction h with
  | fin h => exact .fin h
  | step h _ _ h3 h4 _ ih => exact .step h h3 h4 ih
theorem Least.leads {L : List Item} {must d : Nat} {S : Shelf} {R : List Nat} (h : Least L must d S R) : Leads L must d S := ⟨R, h.path⟩
/-- a store that is no larger than a search may make it -/
structure Small (S : Shelf) (k : Nat) : Prop where
  pl : S.pairs.length ≤ 100 + 4 * k
  ql : S.queue.length ≤ 100 + 4 * k
  pk : ∀ p ∈ S.pairs, p.key.size ≤ 1000 ∧ p.val.size ≤ 1000
  qs : ∀ q ∈ S.queue, q.size ≤ 1000
theorem setP_all {Q : Pair → Prop} {l : List Pair} {key val : ByteArray} (h : ∀ p ∈ l, Q p) (hn : Q ⟨key, val⟩) (hm : ∀ p ∈ l, Q ⟨p.key, val⟩) : ∀ p ∈ setP l key val, Q p := by
  intro p hp
  unfold setP at hp
  split at hp
  · obtain ⟨i, hi, rfl⟩ := List.getElem_of_mem hp
    rw [List.getElem_modify]
    rw [List.length_modify] at hi
    split
    · exact hm _ (List.getElem_mem hi)
    · exact h _ (List.getElem_mem hi)
  · unfold ins at hp
    rcases List.mem_append.1 hp with h1 | h1
    · exact h p (List.mem_of_mem_take h1)
    · rcases List.mem_cons.1 h1 with rfl | h2
      · exact hn
      · exact h p (List.mem_of_mem_drop h2)
theorem Small.doS {c : Call0} {S : Shelf} {k : Nat} (h : Small S k) (hc : flatLong c = false) : (doS c S).pairs.length ≤ S.pairs.length + 1 ∧ (doS c S).queue.length ≤ S.queue.length + 1 ∧ (∀ p ∈ (doS c S).pairs, p.key.size ≤ 1000 ∧ p.val.size ≤ 1000) ∧ ∀ q ∈ (doS c S).queue, q.size ≤ 1000 := by
  refine ⟨(doS_len c S).1, (doS_len c S).2, ?_, ?_⟩
  · unfold Go.Proofs.YtamcehfcjcmpmaaGreatDoor.doS
    split
    · rename_i h2
      have hs : c.key.size ≤ 1000 ∧ c.val.size ≤ 1000 := by
        unfold flatLong at hc
        rw [if_neg (by omega), if_pos h2] at hc
        simp at hc
        omega
      exact setP_all h.pk hs fun p hp => ⟨(h.pk p hp).1, hs.2⟩
    · split
      · intro p hp
        exact h.pk p (List.mem_filter.1 hp).1
      · split
        · exact h.pk
        · split
          · exact h.pk
          · exact h.pk
  · unfold Go.Proofs.YtamcehfcjcmpmaaGreatDoor.doS
    split
    · exact h.qs
    · split
      · exact h.qs
      · split
        · rename_i h4
          have hs : c.val.size ≤ 1000 := by
            unfold flatLong at hc
            rw [if_neg (by omega), if_neg (by omega), if_pos h4] at hc
            simp at hc
            omega
          intro q hq
          rcases List.mem_append.1 hq with h1 | h1
          · exact h.qs q h1
          · rw [List.mem_singleton] at h1
            subst h1
            exact hs
        · split
          · intro q hq
            exact h.qs q (List.mem_of_mem_tail hq)
          · exact h.qs
theorem small_all : ∀ (g : List Call0) {S : Shelf} {k : Nat} {n : Nat}, (∀ x ∈ g, flatLong x = false) → S.pairs.length ≤ n → S.queue.length ≤ n → (∀ p ∈ S.pairs, p.key.size ≤ 1000 ∧ p.val.size ≤ 1000) → (∀ q ∈ S.queue, q.size ≤ 1000) → n + g.length ≤ 100 + 4 * k → Small (doAll g S) k
  | [], S, k, n, _, h1, h2, h3, h4, hn => ⟨by simp at hn; show S.pairs.length ≤ _; omega, by simp at hn; show S.queue.length ≤ _; omega, h3, h4⟩
  | x :: g, S, k, n, hg, h1, h2, h3, h4, hn => by
    obtain ⟨a1, a2, a3, a4⟩ := Small.doS (k := S.pairs.length + S.queue.length) (S := S) ⟨by omega, by omega, h3, h4⟩ (hg x (by simp))
    simp only [List.length_cons] at hn
    exact small_all g (S := doS x S) (n := n + 1) (fun y hy => hg y (by simp [hy])) (by omega) (by omega) a3 a4 (by omega)
theorem goodI_long {c : Call0} {g : List Call0} (h : goodI c g = 0) : longB c g = false ∧ shapeB c g = true := by
  unfold goodI at h
  split at h
  · cases h
  · split at h
    · cases h
    · simp_all
theorem Small.next {c : Call0} {g : List Call0} {S : Shelf} {k : Nat} (h : Small S k) : Small (apS c g S) (k + 1) := by
  unfold apS
  split
  · rename_i hg
    obtain ⟨hl, hs⟩ := goodI_long hg
    split
    · rename_i h7
      have hlen : g.length ≤ 3 := by
        unfold shapeB at hs
        split at hs
        · cases hs
        · split at hs
          · cases hs
          · split at hs
            · omega
            · split at hs
              · cases hs
              · omega
      rw [longB, if_pos h7, List.any_eq_false] at hl
      exact small_all g (n := 100 + 4 * k) (fun x hx => by simpa using hl x hx) h.pl h.ql h.pk h.qs (by omega)
    · rename_i h7
      rw [longB, if_neg h7] at hl
      obtain ⟨a1, a2, a3, a4⟩ := h.doS hl
      exact ⟨by have := h.pl; omega, by have := h.ql; omega, a3, a4⟩
  · exact ⟨by have := h.pl; omega, by have := h.ql; omega, h.pk, h.qs⟩
theorem flat_le {α : Type} {f : α → List UInt8} {n : Nat} : ∀ {l : List α}, (∀ x ∈ l, (f x).length ≤ n) → (l.flatMap f).length ≤ l.length * n
  | [], _ => by simp
  | x :: l, h => by
    have h1 := h x (by simp)
    have h2 := flat_le (f := f) (n := n) (l := l) fun y hy => h y (by simp [hy])
    simp only [List.flatMap_cons, List.length_append, List.length_cons, Nat.succ_mul]
    omega
theorem item_le {x : ByteArray} (h : x.size ≤ 1000) : (txtItem x).length ≤ 1023 := by
  have h1 := Lib.itoa_length_le (x.size : Int) (by omega) (by omega)
  have h2 : (bytesOf x).length = x.size := bytesOf_len x
  simp only [txtItem, List.length_cons, List.length_append]
  omega
theorem Small.text {S : Shelf} {k : Nat} (h : Small S k) (hk : k ≤ 20) : (textL S).length ≤ 10000000 := by
  have h1 := Lib.itoa_length_le (S.pairs.length : Int) (by omega) (by have := h.pl; omega)
  have h2 : (pairsL S.pairs).length ≤ S.pairs.length * 2046 := flat_le fun p hp => by
    have a := item_le (h.pk p hp).1
    have b := item_le (h.pk p hp).2
    rw [List.length_append]
    omega
  have h3 : (queueL S.queue).length ≤ S.queue.length * 1023 := flat_le fun q hq => item_le (h.qs q hq)
  have h4 := h.pl
  have h5 := h.ql
  simp only [textL, List.length_append]
  omega
theorem Small.pairs_le {S : Shelf} {k : Nat} (h : Small S k) (hk : k ≤ 20) : S.pairs.length ≤ 90000 ∧ S.queue.length ≤ 90000 := by
  have h4 := h.pl
  have h5 := h.ql
  omega
end Go.Proofs.YtamcehfcjcmpmaaGreatDoor
/- Rows that go by the stories' own order; what no row can begin with. Plain facts; no program is walked. -/
namespace Go.Proofs.YtamcehfcjcmpmaaGreatDoor
open Go.RowKit

/-- what the first k make of a store, one behind the other -/
def runTo (L : List Item) (S : Shelf) : Nat → Shelf
  | 0 => S
  | k + 1 => if h : k < L.length then L[k].next (runTo L S k) else runTo L S k
theorem runTo_succ {L : List Item} {S : Shelf} {k : Nat} (h : k < L.length) : runTo L S (k + 1) = L[k].next (runTo L S k) := by rw [runTo, dif_pos h]
def bitsTo : Nat → Nat
  | 0 => 0
  | k + 1 => bitsTo k ||| 1 <<< k
theorem bitsTo_bit : ∀ k j, (bitsTo k).testBit j = decide (j < k)
  | 0, j => by simp [bitsTo]
  | k + 1, j => by
    rw [bitsTo, testBit_set, bitsTo_bit k j]
    by_cases h : j < k
    · simp [h]; omega
    · by_cases h2 : j = k
      · simp [h2]
      · have : ¬ j < k + 1 := by omega
        simp [h, h2, this]
theorem must_done {d must : Nat} (h : ∀ i, must.testBit i = true → d.testBit i = true) : d &&& must = must := by
  apply Nat.eq_of_testBit_eq
  intro i
  rw [Nat.testBit_and]
  cases hm : must.testBit i with
  | false => simp
  | true => simp [h i hm]
theorem done_must {d must : Nat} (h : d &&& must = must) (i : Nat) (hi : must.testBit i = true) : d.testBit i = true := by
  have := congrArg (fun x => x.testBit i) h
  simp only [Nat.testBit_and, hi, Bool.and_true] at this
  exact this
theorem leads_inorder {L : List Item} {must : Nat} {S : Shelf} (hm : ∀ i, must.testBit i = true → i < L.length) (hf : ∀ i j (hi : i < L.length) (hj : j < L.length), i < j → befB L[j].s L[i].s = false)
    (hok : ∀ i (hi : i < L.length), L[i].ok (runTo L S i) = true) : Leads L must 0 S := by
  have key : ∀ m k, k + m = L.length → Leads L must (bitsTo k) (runTo L S k) := by
    intro m
    induction m with
    | zero =>
      intro k hk
      exact ⟨[], .fin (must_done fun i hi => by rw [bitsTo_bit]; have := hm i hi; simp; omega)⟩
    | succ m ih =>
      intro k hk
      have hlt : k < L.length := by omega
      obtain ⟨R, hR⟩ := ih (k + 1) (by omega)
      rw [runTo_succ hlt] at hR
      refine ⟨k :: R, .step hlt ⟨hlt, by rw [bitsTo_bit]; simp, fun j hj hne hb => hf k j hlt hj ?_⟩ (hok k hlt) hR⟩
      rw [bitsTo_bit] at hb
      simp at hb
      omega
  exact key L.length 0 (by omega)
theorem leads_fin {L : List Item} {must d : Nat} {S : Shelf} (h : d &&& must = must) : Leads L must d S := ⟨[], .fin h⟩
theorem leads_step {L : List Item} {must d : Nat} {S : Shelf} {i : Nat} (h : LeadsBy L must d S i) : Leads L must d S := leads_iff.2 (.inr ⟨i, h⟩)
end Go.Proofs.YtamcehfcjcmpmaaGreatDoor
namespace Go.Proofs.YtamcehfcjcmpmaaGreatDoor
open Go.RowKit Go.MapKept
open Go.ChangeMaps (setBlock)

def NotInt (w : World) (b : Nat) : Prop := ∀ cur fz, w.heap[b]? ≠ some (.cells cur 3 fz)
structure Fr (lo p m qq : Nat) (w w' : World) : Prop where
  below : Below lo w w'
  keep : ∀ b, b < w.heap.size → b ≠ p → b ≠ m → NotInt w b ∨ b = qq → w'.heap[b]? = w.heap[b]?
theorem Fr.refl (lo p m qq : Nat) (w : World) : Fr lo p m qq w w := ⟨Below.refl _ _, fun _ _ _ _ _ => rfl⟩
theorem Fr.trans {lo p m qq : Nat} {a b c : World} (h : Fr lo p m qq a b) (k : Fr lo p m qq b c) : Fr lo p m qq a c :=
  ⟨h.below.trans k.below, fun i hi h1 h2 h3 => by
    have e := h.keep i hi h1 h2 h3
    refine (k.keep i (by have := h.below.size; omega) h1 h2 (h3.imp (fun h4 cur fz => ?_) id)).trans e
    rw [e]
    exact h4 cur fz⟩
theorem Fr.of_below {lo p m qq : Nat} {w w' : World} (h : Below w.heap.size w w') (hlo : lo ≤ w.heap.size) : Fr lo p m qq w w' := ⟨h.mono hlo, fun i hi _ _ _ => h.block i hi⟩
theorem Fr.setP {lo p m qq : Nat} {a w : World} (h : Fr lo p m qq a w) (hp : lo ≤ p) (o : Nat) (u : Value) : Fr lo p m qq a (w.setCell ⟨p, o, none⟩ u) :=
  ⟨h.below.setCell hp u, fun i hi h1 h2 h3 => (Below.heap_setCell _ _ _ _ h1).trans (h.keep i hi h1 h2 h3)⟩
theorem Fr.drew {lo p m qq : Nat} {a w : World} (h : Fr lo p m qq a w) : Fr lo p m qq a w.drew := ⟨h.below.drew, h.keep⟩
theorem Fr.drewN {lo p m qq : Nat} {a w : World} (h : Fr lo p m qq a w) (n : Nat) : Fr lo p m qq a (w.drewN n) := ⟨below_drewN h.below n, h.keep⟩
theorem Fr.alloc {lo p m qq : Nat} {a w : World} (h : Fr lo p m qq a w) (hlo : lo ≤ w.heap.size) (o : Obj) : Fr lo p m qq a (w.alloc o) :=
  h.trans (Fr.of_below ((Below.refl _ w).alloc (Nat.le_refl _) o) hlo)
theorem Fr.grown {lo p m qq : Nat} {a w w' : World} (h : Fr lo p m qq a w) {lo' : Nat} {A : Option Addr} {c : Nat} {l : List Nat} (own : Own numE 3 1 w lo' A c l) (hlo' : lo ≤ lo') (hg : w.grownBy w' (rowOf A c)) (hlo : lo ≤ w.heap.size) (hqr : some qq ≠ rowOf A c) : Fr lo p m qq a w' := by
  refine h.trans ⟨(Below.refl lo w).grown hg hlo fun q hq => ?_, fun i hi h1 h2 h3 => hg.block i hi fun e => ?_⟩
  · unfold rowOf at hq
    split at hq
    · cases hq
    · rename_i hc0
      rcases own.lt with h0 | ⟨b, off, hA, hl, -⟩
      · exact absurd h0 hc0
      · subst hA
        cases hq
        show lo ≤ b
        omega
  · rcases h3 with h3 | rfl
    · unfold rowOf at e
      split at e
      · cases e
      · rename_i hc0
        rcases own.2.2 with h0 | ⟨b, off, cur, rfl, hl, hh, -⟩
        · exact hc0 h0
        · cases e
          exact h3 _ _ hh
    · exact hqr e
theorem Fr.setM {lo p m qq : Nat} {a w : World} (h : Fr lo p m qq a w) {o : Obj} (hm : w.heap[m]? = some o) (hlo : lo ≤ m) (o' : Obj) : Fr lo p m qq a (setBlock w m o') :=
  h.trans ⟨⟨rfl, rfl, rfl, by simp [setBlock], fun i hi => (MapKept.heap_set hm).2 i (by omega)⟩, fun i _ _ h2 _ => (MapKept.heap_set hm).2 i h2⟩
/-- a block that stays as it is -/
def Safe (lo p m _qq : Nat) (w : World) (b : Nat) : Prop := b < lo ∨ (b < w.heap.size ∧ b ≠ p ∧ b ≠ m ∧ NotInt w b)
theorem Fr.safe {lo p m qq : Nat} {w w' : World} {b : Nat} (h : Fr lo p m qq w w') (hs : Safe lo p m qq w b) : w'.heap[b]? = w.heap[b]? := by
  rcases hs with h1 | ⟨h1, h2, h3, h4⟩
  · exact h.below.block b h1
  · exact h.keep b h1 h2 h3 (.inl h4)
theorem Safe.fr {lo p m qq : Nat} {w w' : World} {b : Nat} (hs : Safe lo p m qq w b) (h : Fr lo p m qq w w') : Safe lo p m qq w' b := by
  have e := h.safe hs
  rcases hs with h1 | ⟨h1, h2, h3, h4⟩
  · exact .inl h1
  · exact .inr ⟨by have := h.below.size; omega, h2, h3, fun cur fz => by rw [e]; exact h4 cur fz⟩
theorem Safe.lt {lo p m qq : Nat} {w : World} {b : Nat} (hs : Safe lo p m qq w b) (hlo : lo ≤ w.heap.size) : b < w.heap.size := by
  rcases hs with h1 | ⟨h1, -⟩ <;> omega
/-- a list in a block that stays as it is -/
def ArrS {α : Type} (enc : α → List Value) (k lo p m qq : Nat) (w : World) (A : Option Addr) (l : List α) : Prop :=
  l = [] ∨ ∃ b off, A = some ⟨b, off, none⟩ ∧ Safe lo p m qq w b ∧ ∀ i (h : i < l.length) j u, (enc l[i])[j]? = some u → w.cell? ⟨b, off + i * k + j, none⟩ = some u
section
variable {α : Type} {enc : α → List Value} {k lo p m qq : Nat} {w w' : World} {A : Option Addr} {l : List α}
theorem ArrS.fr (h : ArrS enc k lo p m qq w A l) (hf : Fr lo p m qq w w') : ArrS enc k lo p m qq w' A l := by
  rcases h with h | ⟨b, off, hA, hs, hc⟩
  · exact .inl h
  · exact .inr ⟨b, off, hA, hs.fr hf, fun i hi j u hu => (World.cell?_of_block (a := ⟨b, _, none⟩) (hf.safe hs)).trans (hc i hi j u hu)⟩
theorem ArrS.arr (h : ArrS enc k lo p m qq w A l) (hlo : lo ≤ w.heap.size) : Arr enc k w w.heap.size A l := by
  rcases h with h | ⟨b, off, hA, hs, hc⟩
  · exact .inl h
  · exact .inr ⟨b, off, hA, hs.lt hlo, hc⟩
theorem ArrS.of_arr (h : Arr enc k w lo A l) : ArrS enc k lo p m qq w A l := by
  rcases h with h | ⟨b, off, hA, hs, hc⟩
  · exact .inl h
  · exact .inr ⟨b, off, hA, .inl hs, hc⟩
theorem ArrS.of_own {e : TypeId} {c lo' : Nat} (hk : ∀ x, (enc x).length = k) (h : Own enc e k w lo' A c l) (he : e ≠ 3) (hep : ∀ cur, w.heap[p]? ≠ some (.cells cur e (0, 0))) (hem : ∀ cur, w.heap[m]? ≠ some (.cells cur e (0, 0))) : ArrS enc k lo p m qq w A l := by
  rcases h.arr hk with h1 | ⟨b, off, hA, hb, hc⟩
  · exact .inl h1
  · rcases h.2.2 with h0 | ⟨b', off', cur, hA', hl, hh, -⟩
    · exact .inl (List.eq_nil_of_length_eq_zero (by have := h.1; omega))
    · rw [hA] at hA'
      cases hA'
      refine .inr ⟨b, off, hA, .inr ⟨hb, ?_, ?_, ?_⟩, hc⟩
      · rintro rfl; exact hep _ hh
      · rintro rfl; exact hem _ hh
      · intro cur' fz h2
        rw [hh] at h2
        cases h2
        exact he rfl
end
/-- a store in blocks that stay as they are -/
structure ShS (lo p m qq : Nat) (w : World) (PA : Option Addr) (pc : Nat) (QA : Option Addr) (qc : Nat) (s : Shelf) : Prop where
  pairs : ArrS Pair.enc 2 lo p m qq w PA s.pairs
  plen : s.pairs.length ≤ pc
  pmax : pc ≤ 9223372036854775807
  queue : ArrS txt 1 lo p m qq w QA s.queue
  qlen : s.queue.length ≤ qc
  qmax : qc ≤ 9223372036854775807
theorem ShS.fr {lo p m qq : Nat} {w w' : World} {PA QA : Option Addr} {pc qc : Nat} {s : Shelf} (h : ShS lo p m qq w PA pc QA qc s) (hf : Fr lo p m qq w w') : ShS lo p m qq w' PA pc QA qc s :=
  ⟨h.pairs.fr hf, h.plen, h.pmax, h.queue.fr hf, h.qlen, h.qmax⟩
theorem ShS.in_ {lo p m qq : Nat} {w : World} {PA QA : Option Addr} {pc qc : Nat} {s : Shelf} (h : ShS lo p m qq w PA pc QA qc s) (hlo : lo ≤ w.heap.size) : ShIn w w.heap.size PA pc QA qc s :=
  ⟨h.pairs.arr hlo, h.plen, h.pmax, h.queue.arr hlo, h.qlen, h.qmax⟩
theorem ShS.of_in {lo p m qq : Nat} {w : World} {PA QA : Option Addr} {pc qc : Nat} {s : Shelf} (h : ShIn w lo PA pc QA qc s) : ShS lo p m qq w PA pc QA qc s :=
  ⟨.of_arr h.pairs, h.plen, h.pmax, .of_arr h.queue, h.qlen, h.qmax⟩
/-- an item of the search in memory -/
structure ItemIn (w : World) (B : Nat) (x : Item) : Prop where
  call : CallIn w B x.s.c x.g
  hits : Arr bit 1 w B x.s.hA x.hs
  hn : x.s.hn = x.hs.length
  hl : x.hs.length ≤ 1000000
theorem ItemIn.below {w w' : World} {B : Nat} {x : Item} (h : ItemIn w B x) (hb : Below B w w') : ItemIn w' B x := ⟨h.call.below hb, h.hits.below hb, h.hn, h.hl⟩
theorem ItemIn.more {w : World} {B B' : Nat} {x : Item} (h : ItemIn w B x) (hB : B ≤ B') : ItemIn w B' x := ⟨h.call.more hB, h.hits.more hB, h.hn, h.hl⟩
/-- a list of numbers of the call's own, in another block than qq -/
structure OwnR (qq : Nat) (w : World) (lo : Nat) (A : Option Addr) (c : Nat) (l : List Nat) : Prop where
  own : Own numE 3 1 w lo A c l
  ne : some qq ≠ rowOf A c
  lt : qq < w.heap.size
theorem OwnR.below {qq : Nat} {w w' : World} {lo : Nat} {A : Option Addr} {c : Nat} {l : List Nat} (h : OwnR qq w lo A c l) (hb : Below w.heap.size w w') : OwnR qq w' lo A c l := ⟨h.own.below hb, h.ne, Nat.lt_of_lt_of_le h.lt hb.size⟩
theorem OwnR.next {qq : Nat} {w w' : World} {lo lo' : Nat} {A : Option Addr} {c : Nat} {l l' : List Nat} (h : OwnR qq w lo A c l) {a : World} (ha : w.heap.size ≤ a.heap.size) {A' : Option Addr} {c' : Nat} (h' : Own numE 3 1 w' lo' A' c' l') (hz : a.heap.size ≤ w'.heap.size) (hl : A' = A ∧ c' = c ∨ ∃ g, A' = some ⟨g, 0, none⟩ ∧ a.heap.size ≤ g) : OwnR qq w' lo' A' c' l' := by
  refine ⟨h', ?_, by have := h.lt; omega⟩
  rcases hl with ⟨rfl, rfl⟩ | ⟨g, rfl, hg⟩
  · exact h.ne
  · intro e
    unfold rowOf at e
    split at e
    · cases e
    · have : qq = g := by cases e; rfl
      have := h.lt
      omega
/-- a search under way -/
structure SrchAt (lo p m qq : Nat) (L : List Item) (must : Nat) (A : Option Addr) (c : Nat) (w : World) (row : List Nat) (T : Nat → List UInt8 → Prop) : Prop where
  box : ∃ R rc, w.heap[p]? = some (.cells #[.slice A L.length c, .int .u64 (must : Int), .slice R row.length rc, .map (some m)] 70 (0, 0)) ∧ OwnR qq w lo R rc row
  map : ∃ es clock, w.heap[m]? = some (.map es clock) ∧ CMS es clock T
  own : ArrS Story.enc 14 lo p m qq w A (L.map (·.s))
  lp : lo ≤ p
  lm : lo ≤ m
theorem SrchAt.below {lo p m qq : Nat} {L : List Item} {must : Nat} {A : Option Addr} {c : Nat} {w w' : World} {row : List Nat} {T : Nat → List UInt8 → Prop} (h : SrchAt lo p m qq L must A c w row T) (hb : Below w.heap.size w w') : SrchAt lo p m qq L must A c w' row T := by
  obtain ⟨⟨R, rc, h1, h2⟩, ⟨es, cl, h3, h4⟩, h5, h6, h7⟩ := h
  have hp := lt_of_heap h1
  exact ⟨⟨R, rc, (hb.block p hp).trans h1, h2.below hb⟩, ⟨es, cl, (hb.block m (lt_of_heap h3)).trans h3, h4⟩, h5.fr (Fr.of_below hb (by omega)), h6, h7⟩
theorem SrchAt.size {lo p m qq : Nat} {L : List Item} {must : Nat} {A : Option Addr} {c : Nat} {w : World} {row : List Nat} {T : Nat → List UInt8 → Prop} (h : SrchAt lo p m qq L must A c w row T) : lo ≤ w.heap.size := by
  obtain ⟨⟨R, rc, h1, h2⟩, _, _, h6, _⟩ := h
  have := lt_of_heap h1
  omega
theorem Own.offMap {α : Type} {enc : α → List Value} {e : TypeId} {k : Nat} {w : World} {lo : Nat} {A : Option Addr} {c : Nat} {l : List α} (h : Own enc e k w lo A c l) {m : Nat} {es : Array MapEntry} {cl : Nat} (hm : w.heap[m]? = some (.map es cl)) (o : Obj) : Own enc e k (setBlock w m o) lo A c l := by
  obtain ⟨h1, h2, h3⟩ := h
  refine ⟨h1, h2, ?_⟩
  rcases h3 with h3 | ⟨b, off, cur, hA, hlo, hh, r⟩
  · exact .inl h3
  · refine .inr ⟨b, off, cur, hA, hlo, ?_, r⟩
    have hne : b ≠ m := by rintro rfl; rw [hm] at hh; cases hh
    exact ((MapKept.heap_set hm).2 b hne).trans hh
section
variable {lo p m qq : Nat} {L : List Item} {must : Nat} {A : Option Addr} {c : Nat} {w : World} {row : List Nat} {T : Nat → List UInt8 → Prop}
theorem SrchAt.setMap (h : SrchAt lo p m qq L must A c w row T) {es' : Array MapEntry} {clock' : Nat} {T' : Nat → List UInt8 → Prop} (h' : CMS es' clock' T') : SrchAt lo p m qq L must A c (setBlock w m (.map es' clock')) row T' := by
  obtain ⟨⟨R, rc, h1, h2⟩, ⟨es, cl, h3, h4⟩, h5, h6, h7⟩ := h
  have hne : p ≠ m := by rintro rfl; rw [h3] at h1; cases h1
  exact ⟨⟨R, rc, ((MapKept.heap_set h3).2 p hne).trans h1, h2.own.offMap h3 _, h2.ne, by have := h2.lt; simpa [setBlock] using this⟩, ⟨es', clock', (MapKept.heap_set h3).1, h'⟩, h5.fr ((Fr.refl lo p m qq w).setM h3 h7 _), h6, h7⟩
theorem SrchAt.frM (h : SrchAt lo p m qq L must A c w row T) {a : World} (hf : Fr lo p m qq a w) (o : Obj) : Fr lo p m qq a (setBlock w m o) := by
  obtain ⟨-, ⟨es, cl, h3, h4⟩, -, h6, h7⟩ := h
  exact hf.setM h3 h7 o
theorem SrchAt.drew (h : SrchAt lo p m qq L must A c w row T) : SrchAt lo p m qq L must A c w.drew row T := h.below (Below.refl _ _).drew
/-- a box of another type than numbers stays -/
theorem Fr.boxed {w w' : World} (hf : Fr lo p m qq w w') (h : SrchAt lo p m qq L must A c w row T) {b : Nat} {cs : Array Value} {e : TypeId} {fz : Nat × Nat} (hb : w.heap[b]? = some (.cells cs e fz)) (he : e ≠ 3) (he' : e ≠ 70) : w'.heap[b]? = some (.cells cs e fz) := by
  obtain ⟨⟨R, rc, h1, h2⟩, ⟨es, cl, h3, h4⟩, -, -, -⟩ := h
  refine (hf.keep b (lt_of_heap hb) ?_ ?_ (.inl fun cur fz' h' => ?_)).trans hb
  · rintro rfl; rw [h1] at hb; cases hb; exact he' rfl
  · rintro rfl; rw [h3] at hb; cases hb
  · rw [hb] at h'; cases h'; exact he rfl
end
theorem Own.setOther {α : Type} {enc : α → List Value} {e e' : TypeId} {k : Nat} {w : World} {lo : Nat} {A : Option Addr} {c : Nat} {l : List α} (h : Own enc e k w lo A c l) {p : Nat} {cur : Array Value} {fz : Nat × Nat} (hp : w.heap[p]? = some (.cells cur e' fz)) (hne : e ≠ e') (o : Nat) (u : Value) :
    Own enc e k (w.setCell ⟨p, o, none⟩ u) lo A c l := by
  obtain ⟨h1, h2, h3⟩ := h
  refine ⟨h1, h2, ?_⟩
  rcases h3 with h3 | ⟨b, off, cur', hA, hlo, hh, r⟩
  · exact .inl h3
  · refine .inr ⟨b, off, cur', hA, hlo, (Below.heap_setCell _ _ _ _ ?_).trans hh, r⟩
    show b ≠ p
    rintro rfl
    rw [hp] at hh
    cases hh
    exact hne rfl
theorem Own.notRow {α : Type} {enc : α → List Value} {e : TypeId} {k : Nat} {w : World} {lo : Nat} {A : Option Addr} {c : Nat} {l : List α} (h : Own enc e k w lo A c l) {q : Nat} (hq : ∀ cur, w.heap[q]? ≠ some (.cells cur e (0, 0))) : some q ≠ rowOf A c := by
  intro he
  unfold rowOf at he
  split at he
  · cases he
  · rename_i hc0
    rcases h.2.2 with h0 | ⟨b, off, cur, rfl, hl, hh, -⟩
    · exact hc0 h0
    · cases he
      exact hq _ hh
theorem Own.front {α : Type} {enc : α → List Value} {e : TypeId} {k : Nat} {w : World} {lo : Nat} {A : Option Addr} {c : Nat} {l m : List α} (h : Own enc e k w lo A c (l ++ m)) : Own enc e k w lo A c l := by
  obtain ⟨h1, h2, h3⟩ := h
  rw [List.length_append] at h1
  refine ⟨by omega, h2, ?_⟩
  rcases h3 with h3 | ⟨b, off, cur, hA, hlo, hh, hs, hc⟩
  · exact .inl h3
  · refine .inr ⟨b, off, cur, hA, hlo, hh, hs, fun j u hj => hc j u ?_⟩
    rw [List.flatMap_append, List.getElem?_append_left (List.getElem?_eq_some_iff.1 hj).1]
    exact hj
section
variable {lo p m qq : Nat} {L : List Item} {must : Nat} {A : Option Addr} {c : Nat} {w : World} {row : List Nat} {T : Nat → List UInt8 → Prop}
theorem SrchAt.push (h : SrchAt lo p m qq L must A c w row T) {R : Option Addr} {rc : Nat} (hr : w.heap[p]? = some (.cells #[.slice A L.length c, .int .u64 (must : Int), .slice R row.length rc, .map (some m)] 70 (0, 0))) (own : OwnR qq w lo R rc row)
    {a : World} (hb : Below w.heap.size w a) {w' : World} {A' : Option Addr} {c' : Nat} {row' : List Nat} (own' : Own numE 3 1 w' lo A' c' row') (hg : a.grownBy w' (rowOf R rc)) (hloc : A' = R ∧ c' = rc ∨ ∃ g, A' = some ⟨g, 0, none⟩ ∧ a.heap.size ≤ g) :
    w'.heap[p]? = some (.cells #[.slice A L.length c, .int .u64 (must : Int), .slice R row.length rc, .map (some m)] 70 (0, 0)) ∧ SrchAt lo p m qq L must A c (w'.setCell ⟨p, 2, none⟩ (.slice A' row'.length c')) row' T ∧ Fr lo p m qq w (w'.setCell ⟨p, 2, none⟩ (.slice A' row'.length c')) := by
  have hlo := h.size
  obtain ⟨-, ⟨es, cl, h3, h4⟩, h5, h6, h7⟩ := h
  have hp := lt_of_heap hr
  have hm := lt_of_heap h3
  have ha := (hb.block p hp).trans hr
  have ham := (hb.block m hm).trans h3
  have owna := own.below hb
  have hz := hb.size
  have r' := (hg.block p (by omega) (owna.own.notRow fun cur h => by rw [ha] at h; cases h)).trans ha
  have m' := (hg.block m (by omega) (owna.own.notRow fun cur h => by rw [ham] at h; cases h)).trans ham
  have hf : Fr lo p m qq w w' := (Fr.of_below hb hlo).grown owna.own (Nat.le_refl _) hg (by omega) owna.ne
  have hne : m ≠ p := by rintro rfl; rw [hr] at h3; cases h3
  have hf2 := hf.setP h6 2 (.slice A' row'.length c')
  exact ⟨r', ⟨⟨A', c', heap_setCell_same _ p 2 _ _ _ r', own.next hz (own'.setOther r' (by decide) 2 _) (by have := hg.size; simpa using this) hloc⟩, ⟨es, cl, (Below.heap_setCell _ _ _ _ hne).trans m', h4⟩, h5.fr hf2, h6, h7⟩, hf2⟩
theorem SrchAt.pop {k : Nat} (h : SrchAt lo p m qq L must A c w (row ++ [k]) T) : ∃ R rc, w.heap[p]? = some (.cells #[.slice A L.length c, .int .u64 (must : Int), .slice R (row.length + 1) rc, .map (some m)] 70 (0, 0)) ∧ row.length + 1 ≤ rc ∧ rc ≤ 9223372036854775807 ∧
    SrchAt lo p m qq L must A c (w.setCell ⟨p, 2, none⟩ (.slice R row.length rc)) row T ∧ Fr lo p m qq w (w.setCell ⟨p, 2, none⟩ (.slice R row.length rc)) := by
  obtain ⟨⟨R, rc, h1, h2⟩, ⟨es, cl, h3, h4⟩, h5, h6, h7⟩ := h
  have hne : m ≠ p := by rintro rfl; rw [h1] at h3; cases h3
  have hf2 := (Fr.refl lo p m qq w).setP h6 2 (.slice R row.length rc)
  rw [List.length_append] at h1
  have hl := h2.own.len
  rw [List.length_append] at hl
  exact ⟨R, rc, h1, hl, h2.own.max, ⟨⟨R, rc, heap_setCell_same _ p 2 _ _ _ h1, (h2.own.setOther h1 (by decide) 2 _).front, h2.ne, by simpa using h2.lt⟩, ⟨es, cl, (Below.heap_setCell _ _ _ _ hne).trans h3, h4⟩, h5.fr hf2, h6, h7⟩, hf2⟩
end
end Go.Proofs.YtamcehfcjcmpmaaGreatDoor
