/- Where a pair stands in a store: slices.IndexFunc at the program's three closures, ideal.place, ideal.Get. -/
import Derived.Test.YtamcehfcjcmpmaaGreatDoorRows
import Derived.Test.YtamcehfcjcmpmaaGreatDoorMem
import Derived.Deep.QuietTactic
import Derived.BigQuiet
import Derived.WalkSpells
import Derived.WalkLawsBesides
import Derived.Deep.RegionHeld3
/- Stores and their copies: slices.Clone at pairs and texts, ideal.copied, the statements' CopyShelf. -/
namespace Go.Proofs.YtamcehfcjcmpmaaGreatDoor
open Go.RowKit

structure Pair where
  key : ByteArray
  val : ByteArray
  deriving Inhabited
def Pair.enc (p : Pair) : List Value := [.string p.key, .string p.val]
theorem Pair.enc_len (p : Pair) : p.enc.length = 2 := rfl
theorem Pair.enc_one (p : Pair) : ∀ u ∈ p.enc, u.oneCell' = true := by intro u hu; simp [Pair.enc] at hu; rcases hu with rfl | rfl <;> rfl
def txt (s : ByteArray) : List Value := [.string s]
theorem txt_len (s : ByteArray) : (txt s).length = 1 := rfl
theorem txt_one (s : ByteArray) : ∀ u ∈ txt s, u.oneCell' = true := by intro u hu; simp [txt] at hu; subst hu; rfl
theorem info_pair : (Tryz.prog.info? 54).map (fun i => (i.zero, i.size, i.bytes)) = some (some (.agg #[.string ByteArray.empty, .string ByteArray.empty]), 2, 32) := by kernel_rfl
theorem info_string : (Tryz.prog.info? 9).map (fun i => (i.zero, i.size, i.bytes)) = some (some (.string ByteArray.empty), 1, 16) := by kernel_rfl

theorem app_pair {ops : Array Oper} {rest : List Oper} {o : Oper} {a : Act} {Q : Exit → Act → World → Prop} (w : World) (hgd : o.guard = none) (s x : Operand)
    (ho : o.op = .call { callee := .builtin .append, args := #[s, x], argTypes := #[22, 22] }) {lo : Nat} {A : Option Addr} {c : Nat} {l : List Pair} (hs : a.eval s = .slice A l.length c) (own : Own Pair.enc 54 2 w lo A c l)
    {B : Nat} {A2 : Option Addr} {m : List Pair} (c2 : Nat) (hx : a.eval x = .slice A2 m.length c2) (arr : Arr Pair.enc 2 w B A2 m) (hb : l.length + m.length ≤ 1000000) (hlo : lo ≤ w.heap.size)
    (h : ∀ A' c' w', Own Pair.enc 54 2 w' lo A' c' (l ++ m) → w.grownBy w' (rowOf A c) → (A' = A ∧ c' = c ∨ ∃ g, A' = some ⟨g, 0, none⟩ ∧ w.heap.size ≤ g) → wpList Tryz.prog ops Q rest (a.put o.dst (.slice A' (l.length + m.length) c')) w') :
    wpList Tryz.prog ops Q (o :: rest) a w := by
  obtain ⟨i0, hi, hz0, hz1, hz2⟩ := info_parts info_pair
  exact wpList_append_Own w hgd s x 22 ho i0 _ 32 Tryz.underlying22 hi hz0 hz1 hz2 rfl (by decide) Pair.enc_len Pair.enc_one hs own c2 hx arr (by unfold maxLen; omega) (by omega) hlo h
theorem app_txt {ops : Array Oper} {rest : List Oper} {o : Oper} {a : Act} {Q : Exit → Act → World → Prop} (w : World) (hgd : o.guard = none) (s x : Operand)
    (ho : o.op = .call { callee := .builtin .append, args := #[s, x], argTypes := #[23, 23] }) {lo : Nat} {A : Option Addr} {c : Nat} {l : List ByteArray} (hs : a.eval s = .slice A l.length c) (own : Own txt 9 1 w lo A c l)
    {B : Nat} {A2 : Option Addr} {m : List ByteArray} (c2 : Nat) (hx : a.eval x = .slice A2 m.length c2) (arr : Arr txt 1 w B A2 m) (hb : l.length + m.length ≤ 1000000) (hlo : lo ≤ w.heap.size)
    (h : ∀ A' c' w', Own txt 9 1 w' lo A' c' (l ++ m) → w.grownBy w' (rowOf A c) → (A' = A ∧ c' = c ∨ ∃ g, A' = some ⟨g, 0, none⟩ ∧ w.heap.size ≤ g) → wpList Tryz.prog ops Q rest (a.put o.dst (.slice A' (l.length + m.length) c')) w') :
    wpList Tryz.prog ops Q (o :: rest) a w := by
  obtain ⟨i0, hi, hz0, hz1, hz2⟩ := info_parts info_string
  exact wpList_append_Own w hgd s x 23 ho i0 _ 16 Tryz.underlying23 hi hz0 hz1 hz2 rfl (by decide) txt_len txt_one hs own c2 hx arr (by unfold maxLen; omega) (by omega) hlo h
/-- a slice of the call's own, as a result -/
def Gives {α : Type} (enc : α → List Value) (ty k : Nat) (l : List α) (w : World) (e : Ending) (w' : World) : Prop :=
  ∃ A c, e = .returned (.slice A l.length c) ∧ Own enc ty k w' w.heap.size A c l ∧ Below w.heap.size w w'

set_option maxHeartbeats 1000000 in
theorem clonePair (l : List Pair) (A : Option Addr) (c : Nat) (w : World) (hA : Arr Pair.enc 2 w w.heap.size A l) (hc : l.length ≤ c) (_hm : c ≤ 9223372036854775807) (hb : l.length ≤ 1000000) :
    Calls Tryz.prog 57 #[.slice A l.length c] w (Gives Pair.enc 54 2 l w) := by
  have HB := hid hb
  clear hb
  have hnil := fun W : World => Lib.run_eql_slice_nil (P := Tryz.prog) W 22 54 A l.length c 0 0 Tryz.underlying22
  cases A with
  | none =>
    go_enter Tryz.func57, Tryz.ntmps57
    go_wp2
    go_ret
    have hl : l = [] := by
      rcases hA with h | ⟨b, off, h, _⟩
      · exact h
      · cases h
    subst hl
    exact ⟨none, 0, rfl, Own.none_, Below.refl _ _⟩
  | some a =>
    go_enter Tryz.func57, Tryz.ntmps57
    go_wp2_with (at_builtin; refine app_pair (l := []) (m := l) _ rfl (.tmp 5) (.tmp 6) rfl rfl (Own.zero (lo := w.heap.size)) c rfl (hA.below ((Below.refl _ w).alloc (Nat.le_refl _) _)) (by simpa using HB.out) (by simp) ?_; intro A' c' w' hown hgr hloc)
    go_ret
    refine ⟨A', c', by simp, by simpa using hown, ((Below.refl _ w).alloc (Nat.le_refl _) _).grown hgr (by simp) (fun k hk => ?_)⟩
    simp [rowOf] at hk
set_option maxHeartbeats 1000000 in
theorem cloneTxt (l : List ByteArray) (A : Option Addr) (c : Nat) (w : World) (hA : Arr txt 1 w w.heap.size A l) (hc : l.length ≤ c) (_hm : c ≤ 9223372036854775807) (hb : l.length ≤ 1000000) :
    Calls Tryz.prog 58 #[.slice A l.length c] w (Gives txt 9 1 l w) := by
  have HB := hid hb
  clear hb
  have hnil := fun W : World => Lib.run_eql_slice_nil (P := Tryz.prog) W 23 9 A l.length c 0 0 Tryz.underlying23
  cases A with
  | none =>
    go_enter Tryz.func58, Tryz.ntmps58
    go_wp2
    go_ret
    have hl : l = [] := by
      rcases hA with h | ⟨b, off, h, _⟩
      · exact h
      · cases h
    subst hl
    exact ⟨none, 0, rfl, Own.none_, Below.refl _ _⟩
  | some a =>
    go_enter Tryz.func58, Tryz.ntmps58
    go_wp2_with (at_builtin; refine app_txt (l := []) (m := l) _ rfl (.tmp 5) (.tmp 6) rfl rfl (Own.zero (lo := w.heap.size)) c rfl (hA.below ((Below.refl _ w).alloc (Nat.le_refl _) _)) (by simpa using HB.out) (by simp) ?_; intro A' c' w' hown hgr hloc)
    go_ret
    refine ⟨A', c', by simp, by simpa using hown, ((Below.refl _ w).alloc (Nat.le_refl _) _).grown hgr (by simp) (fun k hk => ?_)⟩
    simp [rowOf] at hk

/-- a store as it lies in memory, below block B -/
structure Shelf where
  pairs : List Pair
  queue : List ByteArray
structure ShIn (w : World) (B : Nat) (PA : Option Addr) (pc : Nat) (QA : Option Addr) (qc : Nat) (s : Shelf) : Prop where
  pairs : Arr Pair.enc 2 w B PA s.pairs
  plen : s.pairs.length ≤ pc
  pmax : pc ≤ 9223372036854775807
  queue : Arr txt 1 w B QA s.queue
  qlen : s.queue.length ≤ qc
  qmax : qc ≤ 9223372036854775807
theorem ShIn.below {w w' : World} {B : Nat} {PA : Option Addr} {pc : Nat} {QA : Option Addr} {qc : Nat} {s : Shelf} (h : ShIn w B PA pc QA qc s) (hb : Below B w w') : ShIn w' B PA pc QA qc s :=
  ⟨h.pairs.below hb, h.plen, h.pmax, h.queue.below hb, h.qlen, h.qmax⟩
theorem ShIn.more {w : World} {B B' : Nat} {PA : Option Addr} {pc : Nat} {QA : Option Addr} {qc : Nat} {s : Shelf} (h : ShIn w B PA pc QA qc s) (hB : B ≤ B') : ShIn w B' PA pc QA qc s :=
  ⟨h.pairs.more hB, h.plen, h.pmax, h.queue.more hB, h.qlen, h.qmax⟩
/-- a store of the call's own, its pairs and its queue in rows of their own -/
structure ShOwn (w : World) (lo : Nat) (PA : Option Addr) (pc : Nat) (QA : Option Addr) (qc : Nat) (s : Shelf) : Prop where
  pairs : Own Pair.enc 54 2 w lo PA pc s.pairs
  queue : Own txt 9 1 w lo QA qc s.queue
  apart : ∀ b o b' o', PA = some ⟨b, o, none⟩ → QA = some ⟨b', o', none⟩ → pc = 0 ∨ qc = 0 ∨ b ≠ b'
/-- a store as a result -/
def GivesSh (s : Shelf) (w : World) (e : Ending) (w' : World) : Prop :=
  ∃ PA pc QA qc, e = .returned (.agg #[.slice PA s.pairs.length pc, .slice QA s.queue.length qc]) ∧ ShOwn w' w.heap.size PA pc QA qc s ∧ Below w.heap.size w w'

theorem kept2 {W W' : World} {n : Nat} {v0 v1 : Value} (hb : Below W.heap.size W W') (hB : n < W.heap.size) (h : W.cell? ⟨n, 0, none⟩ = some v0 ∧ W.cell? ⟨n, 1, none⟩ = some v1) :
    W'.cell? ⟨n, 0, none⟩ = some v0 ∧ W'.cell? ⟨n, 1, none⟩ = some v1 := by
  rw [hb.cell (p := ⟨n, 0, none⟩) hB, hb.cell (p := ⟨n, 1, none⟩) hB]
  exact h
set_option maxHeartbeats 1000000 in
theorem copied_any (s : Shelf) (PA : Option Addr) (pc : Nat) (QA : Option Addr) (qc : Nat) (w : World) (h : ShIn w w.heap.size PA pc QA qc s) (hp : s.pairs.length ≤ 1000000) (hq : s.queue.length ≤ 1000000) :
    Calls Tryz.prog 48 #[.agg #[.slice PA s.pairs.length pc, .slice QA s.queue.length qc]] w (GivesSh s w) := by
  have H := hid h
  have HP := hid hp
  have HQ := hid hq
  clear h hp hq
  go_enter Tryz.func48, Tryz.ntmps48
  go_wp2_with fail
  go_region_held3 (fun w' => w'.cell? ⟨w.heap.size, 0, none⟩ = some (.slice PA s.pairs.length pc) ∧ w'.cell? ⟨w.heap.size, 1, none⟩ = some (.slice QA s.queue.length qc)) (first | exact kept2 hb2 (by omega) (by assumption) | exact kept2 hb1 (by simp; omega) (by assumption) | go_keep) (first | (go_at_call 57; refine (clonePair s.pairs _ _ _ ?_ H.out.plen H.out.pmax HP.out).mono ?_; (exact (H.out.pairs.below (by repeat (first | exact Below.refl _ _ | assumption | refine Below.drew ?_ | refine below_drewN ?_ _ | refine Below.alloc ?_ (by first | omega | (simp; done) | (simp; omega)) _ | refine Below.setCell ?_ (by first | omega | (simp; done) | (simp; omega)) _))).more (by first | omega | (simp; done) | (simp; omega))); rintro e w1 ⟨A1, c1, rfl, hown1, hb1⟩; have hz1 : w.heap.size + 2 ≤ w1.heap.size := (by have := hb1.size; simpa using this); have hw1 : Below w.heap.size w w1 := Below.trans (by repeat (first | exact Below.refl _ _ | assumption | refine Below.drew ?_ | refine below_drewN ?_ _ | refine Below.alloc ?_ (by first | omega | (simp; done) | (simp; omega)) _ | refine Below.setCell ?_ (by first | omega | (simp; done) | (simp; omega)) _)) (hb1.mono (by first | omega | (simp; done) | (simp; omega))); have d1 : Below (w.heap.size + 2) ((w.alloc (.cells #[.slice PA s.pairs.length pc, .slice QA s.queue.length qc] 25)).alloc (.cells #[.slice none 0 0, .slice none 0 0] 25)) w1 := Below.trans (by repeat (first | exact Below.refl _ _ | assumption | refine Below.drew ?_ | refine below_drewN ?_ _ | refine Below.alloc ?_ (by first | omega | (simp; done) | (simp; omega)) _ | refine Below.setCell ?_ (by first | omega | (simp; done) | (simp; omega)) _)) (hb1.mono (by first | omega | (simp; done) | (simp; omega)))) | (go_at_call 58; refine (cloneTxt s.queue _ _ _ ?_ H.out.qlen H.out.qmax HQ.out).mono ?_; (exact (H.out.queue.below hw1).more (by first | omega | (simp; done) | (simp; omega))); rintro e w2 ⟨A2, c2, rfl, hown2, hb2⟩; have hz2 : w.heap.size + 2 ≤ w2.heap.size := Nat.le_trans hz1 hb2.size; have d2 := d1.trans (hb2.mono hz1); have e0 := d2.cell (p := ⟨w.heap.size + 1, 0, none⟩) (by first | omega | (simp; done) | (simp; omega)); have e1 := d2.cell (p := ⟨w.heap.size + 1, 1, none⟩) (by first | omega | (simp; done) | (simp; omega)); have e2 := d2.frozen (p := ⟨w.heap.size + 1, 0, none⟩) (by first | omega | (simp; done) | (simp; omega)); have e3 := d2.frozen (p := ⟨w.heap.size + 1, 1, none⟩) (by first | omega | (simp; done) | (simp; omega))))
  have hw2 : Below w.heap.size w w2 := hw1.trans (hb2.mono (by omega))
  go_wp2
  refine bodyPost_ret (v := .agg #[.slice A1 s.pairs.length c1, .slice A2 s.queue.length c2]) (by simp [results, Tryz.results48, go_sem, e0, e1]) rfl ⟨A1, c1, A2, c2, rfl, ⟨?_, ?_, hown1.apart hown2 (Nat.le_refl _)⟩, (by repeat (first | exact Below.refl _ _ | assumption | refine Below.drew ?_ | refine below_drewN ?_ _ | refine Below.alloc ?_ (by first | omega | (simp; done) | (simp; omega)) _ | refine Below.setCell ?_ (by first | omega | (simp; done) | (simp; omega)) _))⟩
  · exact (((hown1.below hb2).setCell (by simp) _).setCell (by simp) _).lower (by first | omega | (simp; done) | (simp; omega))
  · exact ((hown2.setCell (by show _ < w1.heap.size; simp; omega) _).setCell (by show _ < w1.heap.size; simp; omega) _).lower (by first | omega | (simp; done) | (simp; omega))
end Go.Proofs.YtamcehfcjcmpmaaGreatDoor
namespace Go.Proofs.YtamcehfcjcmpmaaGreatDoor
open Go.RowKit

theorem Arr.pair {w : World} {B : Nat} {A : Option Addr} {l : List Pair} (h : Arr Pair.enc 2 w B A l) {i : Nat} (hi : i < l.length) :
    ∃ b off, A = some ⟨b, off, none⟩ ∧ b < B ∧ w.cell? ⟨b, off + i * 2, none⟩ = some (.string l[i].key) ∧ w.cell? ⟨b, off + i * 2 + 1, none⟩ = some (.string l[i].val) := by
  rcases h with h | ⟨b, off, hA, hB, hc⟩
  · subst h; simp at hi
  · exact ⟨b, off, hA, hB, hc i hi 0 _ rfl, hc i hi 1 _ rfl⟩
/-- the first place at which something holds, or -1 -/
def fi (q : Pair → Bool) (l : List Pair) : Int := if l.findIdx q < l.length then (l.findIdx q : Int) else -1
def PNone (q : Pair → Bool) (l : List Pair) (k : Nat) : Prop := ∀ i, (hi : i < l.length) → i < k → q l[i] = false
theorem PNone.zero (q : Pair → Bool) (l : List Pair) : PNone q l 0 := fun _ _ h => absurd h (by omega)
theorem PNone.succ {q : Pair → Bool} {l : List Pair} {k : Nat} (hk : k < l.length) (h : PNone q l k) (h1 : q l[k] = false) : PNone q l (k + 1) := by
  intro i hi hlt
  rcases (by omega : i < k ∨ i = k) with h' | rfl
  · exact h i hi h'
  · exact h1
theorem fi_hit {q : Pair → Bool} {l : List Pair} {k : Nat} (hk : k < l.length) (h : PNone q l k) (h1 : q l[k] = true) : fi q l = (k : Int) := by
  have e : l.findIdx q = k := by
    rw [List.findIdx_eq hk]
    exact ⟨h1, fun j hj => h j (by omega) hj⟩
  rw [fi, e, if_pos hk]
theorem fi_miss {q : Pair → Bool} {l : List Pair} {k : Nat} (hk : l.length ≤ k) (h : PNone q l k) : fi q l = -1 := by
  rw [fi, if_neg]
  intro hlt
  have := List.findIdx_getElem (w := hlt)
  rw [h _ hlt (by omega)] at this
  cases this
def eqK (key : ByteArray) (p : Pair) : Bool := p.key.toList == key.toList
/-- Go's '>' on texts, as the model reckons it -/
def gtK (key : ByteArray) (p : Pair) : Bool := !Op.bytesLess p.key.toList key.toList && !(p.key.toList == key.toList)

theorem place1_fn (p : Pair) (key : ByteArray) (b : Nat) (w : World) (hb : b < w.heap.size) (hc : w.cell? ⟨b, 0, none⟩ = some (.string key)) :
    Calls Tryz.prog 92 #[.agg #[.string p.key, .string p.val], .pointer (some ⟨b, 0, none⟩)] w fun e w' => e = .returned (.bool (eqK key p)) ∧ Below w.heap.size w w' := by
  go_enter Tryz.func92, Tryz.ntmps92
  go_wp2
  go_ret
  exact ⟨rfl, (by repeat (first | exact Below.refl _ _ | assumption | refine Below.drew ?_ | refine below_drewN ?_ _ | refine Below.alloc ?_ (by first | omega | (simp; done) | (simp; omega)) _ | refine Below.setCell ?_ (by first | omega | (simp; done) | (simp; omega)) _))⟩
set_option maxHeartbeats 1000000 in
theorem place1_idx (l : List Pair) (A : Option Addr) (c : Nat) (key : ByteArray) (bk : Nat) (w : World) (hA : Arr Pair.enc 2 w w.heap.size A l) (hc : l.length ≤ c) (hm : c ≤ 9223372036854775807) (hbk : bk < w.heap.size) (hk : w.cell? ⟨bk, 0, none⟩ = some (.string key)) :
    Calls Tryz.prog 79 #[.slice A l.length c, .func (.func 92) #[] #[.pointer (some ⟨bk, 0, none⟩)]] w fun e w' => e = .returned (.int .i64 (fi (eqK key) l)) ∧ Below w.heap.size w w' := by
  go_enter Tryz.func79, Tryz.ntmps79
  go_wp2
  go_loopw [8] (fun i wr => ∃ k : Nat, k ≤ l.length ∧ i = .int .i64 k ∧ Below w.heap.size w wr ∧ PNone (eqK key) l k) (fun i _ => l.length - (intOf i).toNat)
  case atStart => exact ⟨0, Nat.zero_le _, rfl, Below.refl _ _, PNone.zero _ _⟩
  case round =>
    obtain ⟨k, hkl, rfl, hb, hn⟩ := hrel
    have hbs := hb.size
    by_cases hlt : k < l.length
    · obtain ⟨b, off, rfl, hB, c0, c1⟩ := (hA.below hb).pair hlt
      have hk' := (hb.cell (p := ⟨bk, 0, none⟩) hbk).trans hk
      cases hq : eqK key l[k] with
      | true =>
        go_wp2_with (go_at_call 92; refine (place1_fn l[k] key bk _ (by omega) hk').mono ?_; rintro e w' ⟨rfl, hb4⟩; rw [hq])
        go_ret
        exact ⟨ret_int (fi_hit hlt hn hq).symm, hb.trans (hb4.mono hbs)⟩
      | false =>
        go_wp2_with (go_at_call 92; refine (place1_fn l[k] key bk _ (by omega) hk').mono ?_; rintro e w' ⟨rfl, hb4⟩; rw [hq])
        go_roundw
        case rel => exact ⟨k + 1, by omega, by go_num, hb.trans (hb4.mono hbs), hn.succ hlt hq⟩
        case measure => simp [intOf]; omega
    · go_wp2
      go_ret
      exact ⟨ret_int (fi_miss (by omega) hn).symm, hb⟩

theorem set1_fn (p : Pair) (key : ByteArray) (b : Nat) (w : World) (hb : b < w.heap.size) (hc : w.cell? ⟨b, 0, none⟩ = some (.string key)) :
    Calls Tryz.prog 80 #[.agg #[.string p.key, .string p.val], .pointer (some ⟨b, 0, none⟩)] w fun e w' => e = .returned (.bool (gtK key p)) ∧ Below w.heap.size w w' := by
  go_enter Tryz.func80, Tryz.ntmps80
  go_wp2
  go_ret
  exact ⟨rfl, (by repeat (first | exact Below.refl _ _ | assumption | refine Below.drew ?_ | refine below_drewN ?_ _ | refine Below.alloc ?_ (by first | omega | (simp; done) | (simp; omega)) _ | refine Below.setCell ?_ (by first | omega | (simp; done) | (simp; omega)) _))⟩
set_option maxHeartbeats 1000000 in
theorem set1_idx (l : List Pair) (A : Option Addr) (c : Nat) (key : ByteArray) (bk : Nat) (w : World) (hA : Arr Pair.enc 2 w w.heap.size A l) (hc : l.length ≤ c) (hm : c ≤ 9223372036854775807) (hbk : bk < w.heap.size) (hk : w.cell? ⟨bk, 0, none⟩ = some (.string key)) :
    Calls Tryz.prog 79 #[.slice A l.length c, .func (.func 80) #[] #[.pointer (some ⟨bk, 0, none⟩)]] w fun e w' => e = .returned (.int .i64 (fi (gtK key) l)) ∧ Below w.heap.size w w' := by
  go_enter Tryz.func79, Tryz.ntmps79
  go_wp2
  go_loopw [8] (fun i wr => ∃ k : Nat, k ≤ l.length ∧ i = .int .i64 k ∧ Below w.heap.size w wr ∧ PNone (gtK key) l k) (fun i _ => l.length - (intOf i).toNat)
  case atStart => exact ⟨0, Nat.zero_le _, rfl, Below.refl _ _, PNone.zero _ _⟩
  case round =>
    obtain ⟨k, hkl, rfl, hb, hn⟩ := hrel
    have hbs := hb.size
    by_cases hlt : k < l.length
    · obtain ⟨b, off, rfl, hB, c0, c1⟩ := (hA.below hb).pair hlt
      have hk' := (hb.cell (p := ⟨bk, 0, none⟩) hbk).trans hk
      cases hq : gtK key l[k] with
      | true =>
        go_wp2_with (go_at_call 80; refine (set1_fn l[k] key bk _ (by omega) hk').mono ?_; rintro e w' ⟨rfl, hb4⟩; rw [hq])
        go_ret
        exact ⟨ret_int (fi_hit hlt hn hq).symm, hb.trans (hb4.mono hbs)⟩
      | false =>
        go_wp2_with (go_at_call 80; refine (set1_fn l[k] key bk _ (by omega) hk').mono ?_; rintro e w' ⟨rfl, hb4⟩; rw [hq])
        go_roundw
        case rel => exact ⟨k + 1, by omega, by go_num, hb.trans (hb4.mono hbs), hn.succ hlt hq⟩
        case measure => simp [intOf]; omega
    · go_wp2
      go_ret
      exact ⟨ret_int (fi_miss (by omega) hn).symm, hb⟩

theorem drop1_fn (p : Pair) (key : ByteArray) (b : Nat) (w : World) (hb : b < w.heap.size) (hc : w.cell? ⟨b, 0, none⟩ = some (.string key)) :
    Calls Tryz.prog 83 #[.agg #[.string p.key, .string p.val], .pointer (some ⟨b, 0, none⟩)] w fun e w' => e = .returned (.bool (eqK key p)) ∧ Below w.heap.size w w' := by
  go_enter Tryz.func83, Tryz.ntmps83
  go_wp2
  go_ret
  exact ⟨rfl, (by repeat (first | exact Below.refl _ _ | assumption | refine Below.drew ?_ | refine below_drewN ?_ _ | refine Below.alloc ?_ (by first | omega | (simp; done) | (simp; omega)) _ | refine Below.setCell ?_ (by first | omega | (simp; done) | (simp; omega)) _))⟩
set_option maxHeartbeats 1000000 in
theorem drop1_idx (l : List Pair) (A : Option Addr) (c : Nat) (key : ByteArray) (bk : Nat) (w : World) (hA : Arr Pair.enc 2 w w.heap.size A l) (hc : l.length ≤ c) (hm : c ≤ 9223372036854775807) (hbk : bk < w.heap.size) (hk : w.cell? ⟨bk, 0, none⟩ = some (.string key)) :
    Calls Tryz.prog 79 #[.slice A l.length c, .func (.func 83) #[] #[.pointer (some ⟨bk, 0, none⟩)]] w fun e w' => e = .returned (.int .i64 (fi (eqK key) l)) ∧ Below w.heap.size w w' := by
  go_enter Tryz.func79, Tryz.ntmps79
  go_wp2
  go_loopw [8] (fun i wr => ∃ k : Nat, k ≤ l.length ∧ i = .int .i64 k ∧ Below w.heap.size w wr ∧ PNone (eqK key) l k) (fun i _ => l.length - (intOf i).toNat)
  case atStart => exact ⟨0, Nat.zero_le _, rfl, Below.refl _ _, PNone.zero _ _⟩
  case round =>
    obtain ⟨k, hkl, rfl, hb, hn⟩ := hrel
    have hbs := hb.size
    by_cases hlt : k < l.length
    · obtain ⟨b, off, rfl, hB, c0, c1⟩ := (hA.below hb).pair hlt
      have hk' := (hb.cell (p := ⟨bk, 0, none⟩) hbk).trans hk
      cases hq : eqK key l[k] with
      | true =>
        go_wp2_with (go_at_call 83; refine (drop1_fn l[k] key bk _ (by omega) hk').mono ?_; rintro e w' ⟨rfl, hb4⟩; rw [hq])
        go_ret
        exact ⟨ret_int (fi_hit hlt hn hq).symm, hb.trans (hb4.mono hbs)⟩
      | false =>
        go_wp2_with (go_at_call 83; refine (drop1_fn l[k] key bk _ (by omega) hk').mono ?_; rintro e w' ⟨rfl, hb4⟩; rw [hq])
        go_roundw
        case rel => exact ⟨k + 1, by omega, by go_num, hb.trans (hb4.mono hbs), hn.succ hlt hq⟩
        case measure => simp [intOf]; omega
    · go_wp2
      go_ret
      exact ⟨ret_int (fi_miss (by omega) hn).symm, hb⟩

theorem place_any (s : Shelf) (PA : Option Addr) (pc : Nat) (QA : Option Addr) (qn qc : Nat) (key : ByteArray) (w : World) (hA : Arr Pair.enc 2 w w.heap.size PA s.pairs) (hc : s.pairs.length ≤ pc) (hm : pc ≤ 9223372036854775807) :
    Calls Tryz.prog 78 #[.agg #[.slice PA s.pairs.length pc, .slice QA qn qc], .string key] w fun e w' => e = .returned (.int .i64 (fi (eqK key) s.pairs)) ∧ Below w.heap.size w w' := by
  have H := hid hA
  clear hA
  go_enter Tryz.func78, Tryz.ntmps78
  go_wp2_with fail
  refine (place1_idx s.pairs PA pc key (w.heap.size + 1) _ ?_ hc hm ?_ ?_).mono ?_
  · exact (H.out.below (by repeat (first | exact Below.refl _ _ | assumption | refine Below.drew ?_ | refine below_drewN ?_ _ | refine Below.alloc ?_ (by first | omega | (simp; done) | (simp; omega)) _ | refine Below.setCell ?_ (by first | omega | (simp; done) | (simp; omega)) _))).more (by first | omega | (simp; done) | (simp; omega))
  · simp
  · simp [go_sem]
  rintro e w' ⟨rfl, hb⟩
  go_wp2
  go_ret
  exact ⟨rfl, Below.trans (b := (w.alloc (.cells #[.slice PA s.pairs.length pc, .slice QA qn qc] 25)).alloc (.cells #[.string key] 9)) (by repeat (first | exact Below.refl _ _ | assumption | refine Below.drew ?_ | refine below_drewN ?_ _ | refine Below.alloc ?_ (by first | omega | (simp; done) | (simp; omega)) _ | refine Below.setCell ?_ (by first | omega | (simp; done) | (simp; omega)) _)) (hb.mono (by first | omega | (simp; done) | (simp; omega)))⟩
theorem fi_range {q : Pair → Bool} {l : List Pair} : fi q l = -1 ∨ ∃ k : Nat, k < l.length ∧ fi q l = (k : Int) := by
  unfold fi
  split
  · exact .inr ⟨_, ‹_›, rfl⟩
  · exact .inl rfl
/-- a key's value, and whether it has one -/
def getD' (l : List Pair) (key : ByteArray) : ByteArray × Bool := match l.find? (eqK key) with | some p => (p.val, true) | none => (ByteArray.empty, false)
theorem fi_find {q : Pair → Bool} {l : List Pair} {k : Nat} (hk : k < l.length) (h : fi q l = (k : Int)) : l.find? q = some l[k] := by
  have e : l.findIdx q = k := by
    unfold fi at h
    split at h
    · omega
    · omega
  have h1 := (List.findIdx_eq hk).1 e
  rw [List.find?_eq_some_iff_getElem]
  exact ⟨h1.1, k, hk, rfl, fun j hj => by simp [h1.2 j hj]⟩
theorem fi_find_none {q : Pair → Bool} {l : List Pair} (h : fi q l = -1) : l.find? q = none := by
  unfold fi at h
  split at h
  · omega
  · rename_i hlt
    rw [List.find?_eq_none]
    intro x hx hq
    exact hlt (List.findIdx_lt_length_of_exists ⟨x, hx, hq⟩)
set_option maxHeartbeats 1000000 in
theorem get_any (s : Shelf) (PA : Option Addr) (pc : Nat) (QA : Option Addr) (qn qc : Nat) (key : ByteArray) (w : World) (hA : Arr Pair.enc 2 w w.heap.size PA s.pairs) (hc : s.pairs.length ≤ pc) (hm : pc ≤ 9223372036854775807) :
    Calls Tryz.prog 62 #[.agg #[.slice PA s.pairs.length pc, .slice QA qn qc], .string key] w fun e w' => e = .returned (.tuple #[.string (getD' s.pairs key).1, .bool (getD' s.pairs key).2]) ∧ Below w.heap.size w w' := by
  have H := hid hA
  clear hA
  rcases fi_range (q := eqK key) (l := s.pairs) with hf | ⟨k, hk, hf⟩
  · have e : getD' s.pairs key = (ByteArray.empty, false) := by rw [getD', fi_find_none hf]
    rw [e]
    clear e
    have HF := hid hf
    clear hf
    go_enter Tryz.func62, Tryz.ntmps62
    go_wp2_with (go_at_call 78; refine (place_any s PA pc QA qn qc key _ ?_ hc hm).mono ?_; (exact (H.out.below (by repeat (first | exact Below.refl _ _ | assumption | refine Below.drew ?_ | refine below_drewN ?_ _ | refine Below.alloc ?_ (by first | omega | (simp; done) | (simp; omega)) _ | refine Below.setCell ?_ (by first | omega | (simp; done) | (simp; omega)) _))).more (by first | omega | (simp; done) | (simp; omega))); rintro e w' ⟨rfl, hb⟩; rw [HF.out])
    go_ret2
    exact ⟨rfl, Below.trans (b := w.alloc (.cells #[.slice PA s.pairs.length pc, .slice QA qn qc] 25)) (by repeat (first | exact Below.refl _ _ | assumption | refine Below.drew ?_ | refine below_drewN ?_ _ | refine Below.alloc ?_ (by first | omega | (simp; done) | (simp; omega)) _ | refine Below.setCell ?_ (by first | omega | (simp; done) | (simp; omega)) _)) (hb.mono (by first | omega | (simp; done) | (simp; omega)))⟩
  · have e : getD' s.pairs key = (s.pairs[k].val, true) := by rw [getD', fi_find hk hf]
    rw [e]
    clear e
    have HF := hid hf
    clear hf
    go_enter Tryz.func62, Tryz.ntmps62
    go_wp2_with (go_at_call 78; refine (place_any s PA pc QA qn qc key _ ?_ hc hm).mono ?_; (exact (H.out.below (by repeat (first | exact Below.refl _ _ | assumption | refine Below.drew ?_ | refine below_drewN ?_ _ | refine Below.alloc ?_ (by first | omega | (simp; done) | (simp; omega)) _ | refine Below.setCell ?_ (by first | omega | (simp; done) | (simp; omega)) _))).more (by first | omega | (simp; done) | (simp; omega))); rintro e w' ⟨rfl, hb⟩; rw [HF.out]; have hbw : Below w.heap.size w w' := Below.trans (b := w.alloc (.cells #[.slice PA s.pairs.length pc, .slice QA qn qc] 25)) (by repeat (first | exact Below.refl _ _ | assumption | refine Below.drew ?_ | refine below_drewN ?_ _ | refine Below.alloc ?_ (by first | omega | (simp; done) | (simp; omega)) _ | refine Below.setCell ?_ (by first | omega | (simp; done) | (simp; omega)) _)) (hb.mono (by first | omega | (simp; done) | (simp; omega))); obtain ⟨b, off, rfl, hB, c0, c1⟩ := (H.out.below hbw).pair hk; have e0 := hb.cell (p := ⟨w.heap.size, 0, none⟩) (by first | omega | (simp; done) | (simp; omega)))
    go_ret2
    exact ⟨rfl, hbw⟩
end Go.Proofs.YtamcehfcjcmpmaaGreatDoor
