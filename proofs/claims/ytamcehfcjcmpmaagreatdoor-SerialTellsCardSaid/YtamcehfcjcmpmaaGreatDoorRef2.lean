/- The reference's push and pop. -/
import Derived.Test.YtamcehfcjcmpmaaGreatDoorCopyS
import Derived.Test.YtamcehfcjcmpmaaGreatDoorIdl12
namespace Go.Proofs.YtamcehfcjcmpmaaGreatDoor
open Go.RowKit

/-- what a store holds lies in blocks from 'lo' on -/
def LowL {α : Type} (lo : Nat) (A : Option Addr) (l : List α) : Prop := l = [] ∨ ∃ b o, A = some ⟨b, o, none⟩ ∧ lo ≤ b
theorem LowL.mono {α : Type} {lo lo' : Nat} {A : Option Addr} {l : List α} (h : LowL lo A l) (hl : lo' ≤ lo) : LowL lo' A l := h.imp id fun ⟨b, o, h1, h2⟩ => ⟨b, o, h1, by omega⟩
theorem Own.low {α : Type} {enc : α → List Value} {e : TypeId} {k : Nat} {w : World} {lo B : Nat} {A : Option Addr} {c : Nat} {l : List α} (h : Own enc e k w lo A c l) (hB : B ≤ lo) : LowL B A l := by
  rcases h.2.2 with h0 | ⟨b, off, cur, hA, hlo, _⟩
  · exact .inl (List.eq_nil_of_length_eq_zero (by have := h.1; omega))
  · exact .inr ⟨b, off, hA, by omega⟩
/-- what is read from 'lo' on stays where a block below 'lo' is stored to -/
theorem Arr.lowCell {α : Type} {enc : α → List Value} {k : Nat} {w : World} {B lo : Nat} {A : Option Addr} {l : List α} (h : Arr enc k w B A l) (hl : LowL lo A l) {p : Addr} (hp : p.block < lo) (u : Value) : Arr enc k (w.setCell p u) B A l := by
  rcases h with h | ⟨b, off, hA, hB, hc⟩
  · exact .inl h
  · rcases hl with hl | ⟨b', o', hA', hlo⟩
    · exact .inl hl
    · rw [hA] at hA'
      cases hA'
      refine .inr ⟨b, off, hA, hB, fun i hi j u' hu => ?_⟩
      rw [← hc i hi j u' hu]
      unfold World.cell?
      rw [Below.heap_setCell _ _ _ _ (by show b ≠ p.block; omega)]
/-- a store as a result, to be read; of the call's own -/
def GivesIn (s : Shelf) (w : World) (e : Ending) (w' : World) : Prop :=
  ∃ PA pc QA qc, e = .returned (.agg #[.slice PA s.pairs.length pc, .slice QA s.queue.length qc]) ∧ ShIn w' w'.heap.size PA pc QA qc s ∧ (LowL w.heap.size PA s.pairs ∧ LowL w.heap.size QA s.queue) ∧ Below w.heap.size w w'
theorem belowR {w W W' : World} {A : Option Addr} {c : Nat} (hg : W.grownBy W' (rowOf A c)) (h : Below w.heap.size w W) (hA : A = none ∧ c = 0 ∨ ∃ g, A = some ⟨g, 0, none⟩ ∧ w.heap.size ≤ g) : Below w.heap.size w W' := h.grown hg h.size (fun k hk => by
  unfold rowOf at hk
  split at hk
  · cases hk
  · rcases hA with ⟨rfl, _⟩ | ⟨g, rfl, h2⟩
    · cases hk
    · simp at hk; omega)
theorem heapR {W W' : World} {A : Option Addr} {c n B : Nat} (hg : W.grownBy W' (rowOf A c)) (hA : A = none ∧ c = 0 ∨ ∃ g, A = some ⟨g, 0, none⟩ ∧ B ≤ g) (hn : n < B) (hW : n < W.heap.size) : W'.heap[n]? = W.heap[n]? :=
  hg.block n hW fun hk => by
    unfold rowOf at hk
    split at hk
    · cases hk
    · rcases hA with ⟨rfl, _⟩ | ⟨g, rfl, h2⟩
      · cases hk
      · simp at hk; omega
/-- the world when the region begins -/
structure Two (w W : World) (v0 v1 : Value) (ty : TypeId) : Prop where
  base : Below w.heap.size w W
  size : w.heap.size + 2 ≤ W.heap.size
  box : W.heap[w.heap.size]? = some (.cells #[v0, v1] ty (0, 0))
  out : W.heap[w.heap.size + 1]? = some (.cells #[.slice none 0 0, .slice none 0 0] ty (0, 0))
theorem Two.start (w : World) (v0 v1 : Value) (ty : TypeId) : Two w ((w.alloc (.cells #[v0, v1] ty)).alloc (.cells #[.slice none 0 0, .slice none 0 0] ty)) v0 v1 ty :=
  ⟨((Below.refl _ w).alloc (Nat.le_refl _) _).alloc (by simp) _, by simp, by rw [heap_alloc_if, if_neg (by simp), heap_alloc_if, if_pos rfl], by rw [heap_alloc_if, if_pos (by simp)]⟩
theorem Two.drew {w W : World} {v0 v1 : Value} {ty : TypeId} (h : Two w W v0 v1 ty) : Two w W.drew v0 v1 ty := ⟨h.base.drew, h.size, h.box, h.out⟩
theorem Two.alloc {w W : World} {v0 v1 : Value} {ty : TypeId} (h : Two w W v0 v1 ty) (o : Obj) : Two w (W.alloc o) v0 v1 ty :=
  ⟨h.base.alloc h.base.size _, by have := h.size; simp; omega, (Below.heap_alloc _ _ _ (by have := h.size; omega)).trans h.box, (Below.heap_alloc _ _ _ (by have := h.size; omega)).trans h.out⟩
theorem Two.grown {w W W' : World} {v0 v1 : Value} {ty : TypeId} (h : Two w W v0 v1 ty) {A : Option Addr} {c : Nat} (hg : W.grownBy W' (rowOf A c)) (hA : A = none ∧ c = 0 ∨ ∃ g, A = some ⟨g, 0, none⟩ ∧ w.heap.size + 2 ≤ g) : Two w W' v0 v1 ty :=
  ⟨belowR hg h.base (hA.imp id fun ⟨g, h1, h2⟩ => ⟨g, h1, by omega⟩), Nat.le_trans h.size hg.size, (heapR hg hA (by omega) (by have := h.size; omega)).trans h.box, (heapR hg hA (by omega) (by have := h.size; omega)).trans h.out⟩
theorem Two.cells {w W : World} {v0 v1 : Value} {ty : TypeId} (h : Two w W v0 v1 ty) : W.cell? ⟨w.heap.size, 0, none⟩ = some v0 ∧ W.cell? ⟨w.heap.size, 1, none⟩ = some v1 := by
  rw [cell_of_row W _ 0 _ _ _ h.box, cell_of_row W _ 1 _ _ _ h.box]
  exact ⟨rfl, rfl⟩
theorem loc_up {A : Option Addr} {c B B' : Nat} (h : A = none ∧ c = 0 ∨ ∃ g, A = some ⟨g, 0, none⟩ ∧ B ≤ g) (hB : B' ≤ B) : A = none ∧ c = 0 ∨ ∃ g, A = some ⟨g, 0, none⟩ ∧ B' ≤ g := h.imp id fun ⟨g, h1, h2⟩ => ⟨g, h1, by omega⟩
/-- a slice of the call's own that was made ahead of another, or behind it, is none of its row -/
theorem Own.grown' {α : Type} {enc : α → List Value} {e : TypeId} {k : Nat} {w W' : World} {lo : Nat} {A A2 : Option Addr} {c c2 B : Nat} {l : List α} (h : Own enc e k w lo A c l) (hg : w.grownBy W' (rowOf A2 c2)) (hA : A2 = none ∧ c2 = 0 ∨ ∃ g, A2 = some ⟨g, 0, none⟩ ∧ B ≤ g)
    (hold : c = 0 ∨ ∃ b o, A = some ⟨b, o, none⟩ ∧ b < B) : Own enc e k W' lo A c l := by
  rcases hold with h0 | ⟨b, o, hb, hlt⟩
  · exact ⟨h.1, h.2.1, .inl h0⟩
  · refine h.grown hg fun b' o' hA' hr => ?_
    rw [hb] at hA'
    cases hA'
    unfold rowOf at hr
    split at hr
    · cases hr
    · rcases hA with ⟨rfl, _⟩ | ⟨g, rfl, h2⟩
      · cases hr
      · simp at hr; omega
theorem Own.grownA {α : Type} {enc : α → List Value} {e : TypeId} {k : Nat} {w W' : World} {lo : Nat} {A A2 : Option Addr} {c c2 : Nat} {l : List α} {α2 : Type} {enc2 : α2 → List Value} {e2 : TypeId} {k2 : Nat} {w2 : World} {lo2 : Nat} {l2 : List α2} (h : Own enc e k w lo A c l) (hg : w.grownBy W' (rowOf A2 c2))
    (h2 : Own enc2 e2 k2 w2 lo2 A2 c2 l2) (hap : ∀ b o b' o', A = some ⟨b, o, none⟩ → A2 = some ⟨b', o', none⟩ → c = 0 ∨ c2 = 0 ∨ b ≠ b') : Own enc e k W' lo A c l := by
  by_cases h0 : c = 0
  · exact ⟨h.1, h.2.1, .inl h0⟩
  · refine h.grown hg fun b o hA hr => ?_
    unfold rowOf at hr
    split at hr
    · cases hr
    · rename_i hc2
      rcases h2.lt with h3 | ⟨b', o', hA2, _⟩
      · exact hc2 h3
      · rw [hA2] at hr
        simp at hr
        rcases hap b o b' o' hA hA2 with h | h | h
        · exact h0 h
        · exact hc2 h
        · exact h hr.symm
theorem ap_symm {A A' : Option Addr} {c c' : Nat} (h : ∀ b o b' o', A = some ⟨b, o, none⟩ → A' = some ⟨b', o', none⟩ → c = 0 ∨ c' = 0 ∨ b ≠ b') : ∀ b o b' o', A' = some ⟨b, o, none⟩ → A = some ⟨b', o', none⟩ → c' = 0 ∨ c = 0 ∨ b ≠ b' :=
  fun b o b' o' h1 h2 => (h b' o' b o h2 h1).elim (fun h => .inr (.inl h)) fun h => h.elim .inl fun h => .inr (.inr (Ne.symm h))
set_option maxHeartbeats 4000000 in
set_option maxRecDepth 100000 in
theorem refpush_any (s : Shelf) (PA : Option Addr) (pc : Nat) (QA : Option Addr) (qc : Nat) (v : ByteArray) (w : World) (h : ShIn w w.heap.size PA pc QA qc s) (hp : s.pairs.length ≤ 900000) (hq : s.queue.length ≤ 900000) :
    Calls Tryz.prog 43 #[.agg #[.slice PA s.pairs.length pc, .slice QA s.queue.length qc], .string v] w (GivesIn ⟨s.pairs, s.queue ++ [v]⟩ w) := by
  have H := hid h
  have HP := hid hp
  have HQ := hid hq
  clear h hp hq
  obtain ⟨i0, hi0, hz0, hz1, hz2⟩ := info_parts info_pair
  obtain ⟨i1, hi1, hy0, hy1, hy2⟩ := info_parts info_string
  have HI := hid hi0
  have HZ0 := hid hz0
  have HZ1 := hid hz1
  have HZ2 := hid hz2
  have HJ := hid hi1
  have HY0 := hid hy0
  have HY1 := hid hy1
  have HY2 := hid hy2
  clear hi0 hz0 hz1 hz2 hi1 hy0 hy1 hy2
  have T0 := Two.start w (.slice PA s.pairs.length pc) (.slice QA s.queue.length qc) 25
  go_enter Tryz.func43, Tryz.ntmps43
  go_wp2_with fail
  go_region_held3 (fun w' => w'.cell? ⟨w.heap.size, 0, none⟩ = some (.slice PA s.pairs.length pc) ∧ w'.cell? ⟨w.heap.size, 1, none⟩ = some (.slice QA s.queue.length qc)) (first | exact TR.cells | exact TQ.cells | exact TP.cells | go_keep) (first | (refine step_append_Own (l := []) (m := s.pairs) (A := none) (c := 0) (lo := w.heap.size) (B := w.heap.size) _ (by rfl) (.const (.slice none 0 0)) (.tmp 6) 22 (by rfl) i0 _ 32 Tryz.underlying22 HI.out HZ0.out HZ1.out HZ2.out rfl (by decide) Pair.enc_len Pair.enc_one (by rfl) Own.none_ pc (by rfl) (by exact H.out.pairs.below (Two.base (v0 := .slice PA s.pairs.length pc) (v1 := .slice QA s.queue.length qc) (ty := 25) (by repeat (first | assumption | refine Two.drew ?_ | refine Two.alloc ?_ _)))) (by have := HP.out; unfold maxLen; rw [List.length_nil]; omega) (by have := HP.out; rw [List.length_nil]; omega) (by exact Below.size (Two.base (v0 := .slice PA s.pairs.length pc) (v1 := .slice QA s.queue.length qc) (ty := 25) (by repeat (first | assumption | refine Two.drew ?_ | refine Two.alloc ?_ _)))) ?_; intro AP cP wP hownP hgrP hlocP; have TP : Two w wP (.slice PA s.pairs.length pc) (.slice QA s.queue.length qc) 25 := (by refine Two.grown ?_ hgrP (.inl ⟨rfl, rfl⟩); repeat (first | assumption | refine Two.drew ?_ | refine Two.alloc ?_ _)); have oP : Own Pair.enc 54 2 wP (w.heap.size + 2) AP cP ([] ++ s.pairs) := (by refine hownP.up (loc_up hlocP ?_); refine Two.size (v0 := .slice PA s.pairs.length pc) (v1 := .slice QA s.queue.length qc) (ty := 25) ?_; repeat (first | assumption | refine Two.drew ?_ | refine Two.alloc ?_ _)); rw [List.nil_append] at oP; have e0 := cell_of_row wP _ 0 _ _ _ TP.out; have e1 := cell_of_row wP _ 1 _ _ _ TP.out; have g0 := frozen_of_row wP _ 0 _ _ TP.out; have g1 := frozen_of_row wP _ 1 _ _ TP.out; have hz := TP.size) | (refine step_append_Own (l := []) (m := s.queue) (A := none) (c := 0) (lo := w.heap.size) (B := w.heap.size) _ (by rfl) (.const (.slice none 0 0)) (.tmp 9) 23 (by rfl) i1 _ 16 Tryz.underlying23 HJ.out HY0.out HY1.out HY2.out rfl (by decide) txt_len txt_one (by rfl) Own.none_ qc (by rfl) (by exact H.out.queue.below (Two.base (v0 := .slice PA s.pairs.length pc) (v1 := .slice QA s.queue.length qc) (ty := 25) (by repeat (first | assumption | refine Two.drew ?_ | refine Two.alloc ?_ _)))) (by have := HQ.out; unfold maxLen; rw [List.length_nil]; omega) (by have := HQ.out; rw [List.length_nil]; omega) (by exact Below.size (Two.base (v0 := .slice PA s.pairs.length pc) (v1 := .slice QA s.queue.length qc) (ty := 25) (by repeat (first | assumption | refine Two.drew ?_ | refine Two.alloc ?_ _)))) ?_; intro AQ cQ wQ hownQ hgrQ hlocQ; have TQ : Two w wQ (.slice PA s.pairs.length pc) (.slice QA s.queue.length qc) 25 := (by refine Two.grown ?_ hgrQ (.inl ⟨rfl, rfl⟩); repeat (first | assumption | refine Two.drew ?_ | refine Two.alloc ?_ _)); have lQ : AQ = none ∧ cQ = 0 ∨ ∃ g, AQ = some ⟨g, 0, none⟩ ∧ w.heap.size + 2 ≤ g := (by refine loc_up hlocQ ?_; refine Two.size (v0 := .slice PA s.pairs.length pc) (v1 := .slice QA s.queue.length qc) (ty := 25) ?_; repeat (first | assumption | refine Two.drew ?_ | refine Two.alloc ?_ _)); have oQ := hownQ.up lQ; rw [List.nil_append] at oQ) | (refine step_append_Own (l := s.queue) (m := [v]) (A := AQ) (c := cQ) (lo := w.heap.size + 2) _ (by rfl) (.tmp 10) (.tmp 12) 23 (by rfl) i1 _ 16 Tryz.underlying23 HJ.out HY0.out HY1.out HY2.out rfl (by decide) txt_len txt_one (by first | rfl | simp [Act.eval]) (by repeat (first | assumption | refine Own.alloc ?_ _ | refine Own.grown ?_ hgrP (fun b off _ => by simp [rowOf]))) 1 (by rfl) (by refine arr_one_txt ?_; repeat (first | (rw [heap_alloc_if, if_pos (by first | rfl | (simp; done))]; done) | (rw [show ∀ (x : World), x.drew.heap = x.heap from fun _ => rfl]) | refine (hgrQ.block _ (by first | (simp; done) | (have := hgrP.size; simp at this; omega)) (by simp [rowOf])).trans ?_ | refine (hgrP.block _ (by first | (simp; done) | (have := hgrQ.size; simp at this; omega)) (by simp [rowOf])).trans ?_ | refine (Below.heap_alloc _ _ _ (by first | (simp; done) | (simp; omega))).trans ?_)) (by have := HQ.out; unfold maxLen; simp; omega) (by have := HQ.out; simp; omega) (by exact Two.size (v0 := .slice PA s.pairs.length pc) (v1 := .slice QA s.queue.length qc) (ty := 25) (by repeat (first | assumption | refine Two.drew ?_ | refine Two.alloc ?_ _))) ?_; intro AR cR wR hownR hgrR hlocR; have TR : Two w wR (.slice PA s.pairs.length pc) (.slice QA s.queue.length qc) 25 := (by refine Two.grown ?_ hgrR lQ; repeat (first | assumption | refine Two.drew ?_ | refine Two.alloc ?_ _)); have e0 := cell_of_row wR _ 0 _ _ _ TR.out; have e1 := cell_of_row wR _ 1 _ _ _ TR.out; have g0 := frozen_of_row wR _ 0 _ _ TR.out; have g1 := frozen_of_row wR _ 1 _ _ TR.out; have hz := TR.size) | fail)
  all_goals
    go_wp2
    have hap := hownP.apart (hownQ.up hlocQ) (by first | exact Nat.le_refl _ | (simp; done))
    have fP : Own Pair.enc 54 2 wR (w.heap.size + 2) AP cP s.pairs := by
      refine Own.grownA ?_ hgrR oQ hap
      repeat (first | assumption | refine Own.alloc ?_ _ | refine Own.grown ?_ hgrQ (fun b off _ => by simp [rowOf]))
    have gP := (fP.setCell (p := ⟨w.heap.size + 1, 0, none⟩) (by simp) (.slice AP s.pairs.length cP)).setCell (p := ⟨w.heap.size + 1, 1, none⟩) (by simp) (.slice AR (s.queue.length + 1) cR)
    have gR := (hownR.setCell (p := ⟨w.heap.size + 1, 0, none⟩) (by simp) (.slice AP s.pairs.length cP)).setCell (p := ⟨w.heap.size + 1, 1, none⟩) (by simp) (.slice AR (s.queue.length + 1) cR)
    have hB := TR.base
    refine bodyPost_ret (v := .agg #[.slice AP s.pairs.length cP, .slice AR (s.queue.length + 1) cR]) (by simp [results, Tryz.results43, go_sem, e0, e1]) rfl ⟨AP, cP, AR, cR, by simp, ⟨gP.arr Pair.enc_len, gP.len, gP.max, gR.arr txt_len, gR.len, gR.max⟩, ⟨gP.low (by omega), gR.low (by omega)⟩, (by repeat (first | exact Below.refl _ _ | assumption | refine Below.drew ?_ | refine below_drewN ?_ _ | refine Below.alloc ?_ (by first | omega | (simp; done) | (simp; omega)) _ | refine Below.setCell ?_ (by first | omega | (simp; done) | (simp; omega)) _))⟩
end Go.Proofs.YtamcehfcjcmpmaaGreatDoor
