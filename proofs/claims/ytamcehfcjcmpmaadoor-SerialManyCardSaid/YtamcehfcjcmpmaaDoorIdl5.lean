/- Stores and their copies: slices.Clone at pairs and texts, ideal.copied, the statements' CopyShelf. -/
import Derived.Test.YtamcehfcjcmpmaaDoorRows
import Derived.Test.YtamcehfcjcmpmaaDoorMem
import Derived.Deep.QuietTactic
import Derived.BigQuiet
import Derived.WalkSpells
import Derived.WalkLawsBesides
import Derived.Deep.RegionHeld3
namespace Go.Proofs.YtamcehfcjcmpmaaDoor
open Go.RowKit

structure Pair where
  key : ByteArray
  val : ByteArray
  deriving Inhabited
def Pair.enc (p : Pair) : List Value := [.string p.key, .string p.val]
theorem Pair.enc_len (p : Pair) : p.enc.length = 2 := rfl
theorem Pair.enc_one (p : Pair) : ∀ u ∈ p.enc, u.oneCell' = true := by intro u hu; simp [Pair.enc] at hu; rcases hu with rfl | rfl <;> rfl
def txt (s : ByteArray) : List Value := [.string s]
theorem txt_len (s : ByteArray) : (txt s).length = 1 := rfl
theorem txt_one (s : ByteArray) : ∀ u ∈ txt s, u.oneCell' = true := by intro u hu; simp [txt] at hu; subst hu; rfl
theorem info_pair : (Tryd.prog.info? 53).map (fun i => (i.zero, i.size, i.bytes)) = some (some (.agg #[.string ByteArray.empty, .string ByteArray.empty]), 2, 32) := by kernel_rfl
theorem info_string : (Tryd.prog.info? 9).map (fun i => (i.zero, i.size, i.bytes)) = some (some (.string ByteArray.empty), 1, 16) := by kernel_rfl

theorem app_pair {ops : Array Oper} {rest : List Oper} {o : Oper} {a : Act} {Q : Exit → Act → World → Prop} (w : World) (hgd : o.guard = none) (s x : Operand)
    (ho : o.op = .call { callee := .builtin .append, args := #[s, x], argTypes := #[22, 22] }) {lo : Nat} {A : Option Addr} {c : Nat} {l : List Pair} (hs : a.eval s = .slice A l.length c) (own : Own Pair.enc 53 2 w lo A c l)
    {B : Nat} {A2 : Option Addr} {m : List Pair} (c2 : Nat) (hx : a.eval x = .slice A2 m.length c2) (arr : Arr Pair.enc 2 w B A2 m) (hb : l.length + m.length ≤ 1000000) (hlo : lo ≤ w.heap.size)
    (h : ∀ A' c' w', Own Pair.enc 53 2 w' lo A' c' (l ++ m) → w.grownBy w' (rowOf A c) → (A' = A ∧ c' = c ∨ ∃ g, A' = some ⟨g, 0, none⟩ ∧ w.heap.size ≤ g) → wpList Tryd.prog ops Q rest (a.put o.dst (.slice A' (l.length + m.length) c')) w') :
    wpList Tryd.prog ops Q (o :: rest) a w := by
  obtain ⟨i0, hi, hz0, hz1, hz2⟩ := info_parts info_pair
  exact wpList_append_Own w hgd s x 22 ho i0 _ 32 Tryd.underlying22 hi hz0 hz1 hz2 rfl (by decide) Pair.enc_len Pair.enc_one hs own c2 hx arr (by unfold maxLen; omega) (by omega) hlo h
theorem app_txt {ops : Array Oper} {rest : List Oper} {o : Oper} {a : Act} {Q : Exit → Act → World → Prop} (w : World) (hgd : o.guard = none) (s x : Operand)
    (ho : o.op = .call { callee := .builtin .append, args := #[s, x], argTypes := #[23, 23] }) {lo : Nat} {A : Option Addr} {c : Nat} {l : List ByteArray} (hs : a.eval s = .slice A l.length c) (own : Own txt 9 1 w lo A c l)
    {B : Nat} {A2 : Option Addr} {m : List ByteArray} (c2 : Nat) (hx : a.eval x = .slice A2 m.length c2) (arr : Arr txt 1 w B A2 m) (hb : l.length + m.length ≤ 1000000) (hlo : lo ≤ w.heap.size)
    (h : ∀ A' c' w', Own txt 9 1 w' lo A' c' (l ++ m) → w.grownBy w' (rowOf A c) → (A' = A ∧ c' = c ∨ ∃ g, A' = some ⟨g, 0, none⟩ ∧ w.heap.size ≤ g) → wpList Tryd.prog ops Q rest (a.put o.dst (.slice A' (l.length + m.length) c')) w') :
    wpList Tryd.prog ops Q (o :: rest) a w := by
  obtain ⟨i0, hi, hz0, hz1, hz2⟩ := info_parts info_string
  exact wpList_append_Own w hgd s x 23 ho i0 _ 16 Tryd.underlying23 hi hz0 hz1 hz2 rfl (by decide) txt_len txt_one hs own c2 hx arr (by unfold maxLen; omega) (by omega) hlo h
/-- a slice of the call's own, as a result -/
def Gives {α : Type} (enc : α → List Value) (ty k : Nat) (l : List α) (w : World) (e : Ending) (w' : World) : Prop :=
  ∃ A c, e = .returned (.slice A l.length c) ∧ Own enc ty k w' w.heap.size A c l ∧ Below w.heap.size w w'

set_option maxHeartbeats 1000000 in
theorem clonePair (l : List Pair) (A : Option Addr) (c : Nat) (w : World) (hA : Arr Pair.enc 2 w w.heap.size A l) (hc : l.length ≤ c) (_hm : c ≤ 9223372036854775807) (hb : l.length ≤ 1000000) :
    Calls Tryd.prog 36 #[.slice A l.length c] w (Gives Pair.enc 53 2 l w) := by
  have HB := hid hb
  clear hb
  have hnil := fun W : World => Lib.run_eql_slice_nil (P := Tryd.prog) W 22 53 A l.length c 0 0 Tryd.underlying22
  cases A with
  | none =>
    go_enter Tryd.func36, Tryd.ntmps36
    go_wp2
    go_ret
    have hl : l = [] := by
      rcases hA with h | ⟨b, off, h, _⟩
      · exact h
      · cases h
    subst hl
    exact ⟨none, 0, rfl, Own.none_, Below.refl _ _⟩
  | some a =>
    go_enter Tryd.func36, Tryd.ntmps36
    go_wp2_with (at_builtin; refine app_pair (l := []) (m := l) _ rfl (.tmp 5) (.tmp 6) rfl rfl (Own.zero (lo := w.heap.size)) c rfl (hA.below ((Below.refl _ w).alloc (Nat.le_refl _) _)) (by simpa using HB.out) (by simp) ?_; intro A' c' w' hown hgr hloc)
    go_ret
    refine ⟨A', c', by simp, by simpa using hown, ((Below.refl _ w).alloc (Nat.le_refl _) _).grown hgr (by simp) (fun k hk => ?_)⟩
    simp [rowOf] at hk
set_option maxHeartbeats 1000000 in
theorem cloneTxt (l : List ByteArray) (A : Option Addr) (c : Nat) (w : World) (hA : Arr txt 1 w w.heap.size A l) (hc : l.length ≤ c) (_hm : c ≤ 9223372036854775807) (hb : l.length ≤ 1000000) :
    Calls Tryd.prog 37 #[.slice A l.length c] w (Gives txt 9 1 l w) := by
  have HB := hid hb
  clear hb
  have hnil := fun W : World => Lib.run_eql_slice_nil (P := Tryd.prog) W 23 9 A l.length c 0 0 Tryd.underlying23
  cases A with
  | none =>
    go_enter Tryd.func37, Tryd.ntmps37
    go_wp2
    go_ret
    have hl : l = [] := by
      rcases hA with h | ⟨b, off, h, _⟩
      · exact h
      · cases h
    subst hl
    exact ⟨none, 0, rfl, Own.none_, Below.refl _ _⟩
  | some a =>
    go_enter Tryd.func37, Tryd.ntmps37
    go_wp2_with (at_builtin; refine app_txt (l := []) (m := l) _ rfl (.tmp 5) (.tmp 6) rfl rfl (Own.zero (lo := w.heap.size)) c rfl (hA.below ((Below.refl _ w).alloc (Nat.le_refl _) _)) (by simpa using HB.out) (by simp) ?_; intro A' c' w' hown hgr hloc)
    go_ret
    refine ⟨A', c', by simp, by simpa using hown, ((Below.refl _ w).alloc (Nat.le_refl _) _).grown hgr (by simp) (fun k hk => ?_)⟩
    simp [rowOf] at hk

/-- a store as it lies in memory, below block B -/
structure Shelf where
  pairs : List Pair
  queue : List ByteArray
structure ShIn (w : World) (B : Nat) (PA : Option Addr) (pc : Nat) (QA : Option Addr) (qc : Nat) (s : Shelf) : Prop where
  pairs : Arr Pair.enc 2 w B PA s.pairs
  plen : s.pairs.length ≤ pc
  pmax : pc ≤ 9223372036854775807
  queue : Arr txt 1 w B QA s.queue
  qlen : s.queue.length ≤ qc
  qmax : qc ≤ 9223372036854775807
theorem ShIn.below {w w' : World} {B : Nat} {PA : Option Addr} {pc : Nat} {QA : Option Addr} {qc : Nat} {s : Shelf} (h : ShIn w B PA pc QA qc s) (hb : Below B w w') : ShIn w' B PA pc QA qc s :=
  ⟨h.pairs.below hb, h.plen, h.pmax, h.queue.below hb, h.qlen, h.qmax⟩
theorem ShIn.more {w : World} {B B' : Nat} {PA : Option Addr} {pc : Nat} {QA : Option Addr} {qc : Nat} {s : Shelf} (h : ShIn w B PA pc QA qc s) (hB : B ≤ B') : ShIn w B' PA pc QA qc s :=
  ⟨h.pairs.more hB, h.plen, h.pmax, h.queue.more hB, h.qlen, h.qmax⟩
/-- a store of the call's own, its pairs and its queue in rows of their own -/
structure ShOwn (w : World) (lo : Nat) (PA : Option Addr) (pc : Nat) (QA : Option Addr) (qc : Nat) (s : Shelf) : Prop where
  pairs : Own Pair.enc 53 2 w lo PA pc s.pairs
  queue : Own txt 9 1 w lo QA qc s.queue
  apart : ∀ b o b' o', PA = some ⟨b, o, none⟩ → QA = some ⟨b', o', none⟩ → pc = 0 ∨ qc = 0 ∨ b ≠ b'
/-- a store as a result -/
def GivesSh (s : Shelf) (w : World) (e : Ending) (w' : World) : Prop :=
  ∃ PA pc QA qc, e = .returned (.agg #[.slice PA s.pairs.length pc, .slice QA s.queue.length qc]) ∧ ShOwn w' w.heap.size PA pc QA qc s ∧ Below w.heap.size w w'

theorem kept2 {W W' : World} {n : Nat} {v0 v1 : Value} (hb : Below W.heap.size W W') (hB : n < W.heap.size) (h : W.cell? ⟨n, 0, none⟩ = some v0 ∧ W.cell? ⟨n, 1, none⟩ = some v1) :
    W'.cell? ⟨n, 0, none⟩ = some v0 ∧ W'.cell? ⟨n, 1, none⟩ = some v1 := by
  rw [hb.cell (p := ⟨n, 0, none⟩) hB, hb.cell (p := ⟨n, 1, none⟩) hB]
  exact h
set_option maxHeartbeats 1000000 in
theorem copied_any (s : Shelf) (PA : Option Addr) (pc : Nat) (QA : Option Addr) (qc : Nat) (w : World) (h : ShIn w w.heap.size PA pc QA qc s) (hp : s.pairs.length ≤ 1000000) (hq : s.queue.length ≤ 1000000) :
    Calls Tryd.prog 26 #[.agg #[.slice PA s.pairs.length pc, .slice QA s.queue.length qc]] w (GivesSh s w) := by
  have H := hid h
  have HP := hid hp
  have HQ := hid hq
  clear h hp hq
  go_enter Tryd.func26, Tryd.ntmps26
  go_wp2_with fail
  go_region_held3 (fun w' => w'.cell? ⟨w.heap.size, 0, none⟩ = some (.slice PA s.pairs.length pc) ∧ w'.cell? ⟨w.heap.size, 1, none⟩ = some (.slice QA s.queue.length qc)) (first | exact kept2 hb2 (by omega) (by assumption) | exact kept2 hb1 (by simp; omega) (by assumption) | go_keep) (first | (go_at_call 36; refine (clonePair s.pairs _ _ _ ?_ H.out.plen H.out.pmax HP.out).mono ?_; (exact (H.out.pairs.below (by repeat (first | exact Below.refl _ _ | assumption | refine Below.drew ?_ | refine below_drewN ?_ _ | refine Below.alloc ?_ (by first | omega | (simp; done) | (simp; omega)) _ | refine Below.setCell ?_ (by first | omega | (simp; done) | (simp; omega)) _))).more (by first | omega | (simp; done) | (simp; omega))); rintro e w1 ⟨A1, c1, rfl, hown1, hb1⟩; have hz1 : w.heap.size + 2 ≤ w1.heap.size := (by have := hb1.size; simpa using this); have hw1 : Below w.heap.size w w1 := Below.trans (by repeat (first | exact Below.refl _ _ | assumption | refine Below.drew ?_ | refine below_drewN ?_ _ | refine Below.alloc ?_ (by first | omega | (simp; done) | (simp; omega)) _ | refine Below.setCell ?_ (by first | omega | (simp; done) | (simp; omega)) _)) (hb1.mono (by first | omega | (simp; done) | (simp; omega))); have d1 : Below (w.heap.size + 2) ((w.alloc (.cells #[.slice PA s.pairs.length pc, .slice QA s.queue.length qc] 25)).alloc (.cells #[.slice none 0 0, .slice none 0 0] 25)) w1 := Below.trans (by repeat (first | exact Below.refl _ _ | assumption | refine Below.drew ?_ | refine below_drewN ?_ _ | refine Below.alloc ?_ (by first | omega | (simp; done) | (simp; omega)) _ | refine Below.setCell ?_ (by first | omega | (simp; done) | (simp; omega)) _)) (hb1.mono (by first | omega | (simp; done) | (simp; omega)))) | (go_at_call 37; refine (cloneTxt s.queue _ _ _ ?_ H.out.qlen H.out.qmax HQ.out).mono ?_; (exact (H.out.queue.below hw1).more (by first | omega | (simp; done) | (simp; omega))); rintro e w2 ⟨A2, c2, rfl, hown2, hb2⟩; have hz2 : w.heap.size + 2 ≤ w2.heap.size := Nat.le_trans hz1 hb2.size; have d2 := d1.trans (hb2.mono hz1); have e0 := d2.cell (p := ⟨w.heap.size + 1, 0, none⟩) (by first | omega | (simp; done) | (simp; omega)); have e1 := d2.cell (p := ⟨w.heap.size + 1, 1, none⟩) (by first | omega | (simp; done) | (simp; omega)); have e2 := d2.frozen (p := ⟨w.heap.size + 1, 0, none⟩) (by first | omega | (simp; done) | (simp; omega)); have e3 := d2.frozen (p := ⟨w.heap.size + 1, 1, none⟩) (by first | omega | (simp; done) | (simp; omega))))
  have hw2 : Below w.heap.size w w2 := hw1.trans (hb2.mono (by omega))
  go_wp2
  refine bodyPost_ret (v := .agg #[.slice A1 s.pairs.length c1, .slice A2 s.queue.length c2]) (by simp [results, Tryd.results26, go_sem, e0, e1]) rfl ⟨A1, c1, A2, c2, rfl, ⟨?_, ?_, hown1.apart hown2 (Nat.le_refl _)⟩, (by repeat (first | exact Below.refl _ _ | assumption | refine Below.drew ?_ | refine below_drewN ?_ _ | refine Below.alloc ?_ (by first | omega | (simp; done) | (simp; omega)) _ | refine Below.setCell ?_ (by first | omega | (simp; done) | (simp; omega)) _))⟩
  · exact (((hown1.below hb2).setCell (by simp) _).setCell (by simp) _).lower (by first | omega | (simp; done) | (simp; omega))
  · exact ((hown2.setCell (by show _ < w1.heap.size; simp; omega) _).setCell (by show _ < w1.heap.size; simp; omega) _).lower (by first | omega | (simp; done) | (simp; omega))
end Go.Proofs.YtamcehfcjcmpmaaDoor
