/- Where a pair stands in a store: slices.IndexFunc at the program's three closures, ideal.place, ideal.Get. -/
import Derived.Test.YtamcehfcjcmpmaaDoorIdl5
namespace Go.Proofs.YtamcehfcjcmpmaaDoor
open Go.RowKit

theorem Arr.pair {w : World} {B : Nat} {A : Option Addr} {l : List Pair} (h : Arr Pair.enc 2 w B A l) {i : Nat} (hi : i < l.length) :
    ∃ b off, A = some ⟨b, off, none⟩ ∧ b < B ∧ w.cell? ⟨b, off + i * 2, none⟩ = some (.string l[i].key) ∧ w.cell? ⟨b, off + i * 2 + 1, none⟩ = some (.string l[i].val) := by
  rcases h with h | ⟨b, off, hA, hB, hc⟩
  · subst h; simp at hi
  · exact ⟨b, off, hA, hB, hc i hi 0 _ rfl, hc i hi 1 _ rfl⟩
/-- the first place at which something holds, or -1 -/
def fi (q : Pair → Bool) (l : List Pair) : Int := if l.findIdx q < l.length then (l.findIdx q : Int) else -1
def PNone (q : Pair → Bool) (l : List Pair) (k : Nat) : Prop := ∀ i, (hi : i < l.length) → i < k → q l[i] = false
theorem PNone.zero (q : Pair → Bool) (l : List Pair) : PNone q l 0 := fun _ _ h => absurd h (by omega)
theorem PNone.succ {q : Pair → Bool} {l : List Pair} {k : Nat} (hk : k < l.length) (h : PNone q l k) (h1 : q l[k] = false) : PNone q l (k + 1) := by
  intro i hi hlt
  rcases (by omega : i < k ∨ i = k) with h' | rfl
  · exact h i hi h'
  · exact h1
theorem fi_hit {q : Pair → Bool} {l : List Pair} {k : Nat} (hk : k < l.length) (h : PNone q l k) (h1 : q l[k] = true) : fi q l = (k : Int) := by
  have e : l.findIdx q = k := by
    rw [List.findIdx_eq hk]
    exact ⟨h1, fun j hj => h j (by omega) hj⟩
  rw [fi, e, if_pos hk]
theorem fi_miss {q : Pair → Bool} {l : List Pair} {k : Nat} (hk : l.length ≤ k) (h : PNone q l k) : fi q l = -1 := by
  rw [fi, if_neg]
  intro hlt
  have := List.findIdx_getElem (w := hlt)
  rw [h _ hlt (by omega)] at this
  cases this
def eqK (key : ByteArray) (p : Pair) : Bool := p.key.toList == key.toList
/-- Go's '>' on texts, as the model reckons it -/
def gtK (key : ByteArray) (p : Pair) : Bool := !Op.bytesLess p.key.toList key.toList && !(p.key.toList == key.toList)

theorem place1_fn (p : Pair) (key : ByteArray) (b : Nat) (w : World) (hb : b < w.heap.size) (hc : w.cell? ⟨b, 0, none⟩ = some (.string key)) :
    Calls Tryd.prog 67 #[.agg #[.string p.key, .string p.val], .pointer (some ⟨b, 0, none⟩)] w fun e w' => e = .returned (.bool (eqK key p)) ∧ Below w.heap.size w w' := by
  go_enter Tryd.func67, Tryd.ntmps67
  go_wp2
  go_ret
  exact ⟨rfl, (by repeat (first | exact Below.refl _ _ | assumption | refine Below.drew ?_ | refine below_drewN ?_ _ | refine Below.alloc ?_ (by first | omega | (simp; done) | (simp; omega)) _ | refine Below.setCell ?_ (by first | omega | (simp; done) | (simp; omega)) _))⟩
set_option maxHeartbeats 1000000 in
theorem place1_idx (l : List Pair) (A : Option Addr) (c : Nat) (key : ByteArray) (bk : Nat) (w : World) (hA : Arr Pair.enc 2 w w.heap.size A l) (hc : l.length ≤ c) (hm : c ≤ 9223372036854775807) (hbk : bk < w.heap.size) (hk : w.cell? ⟨bk, 0, none⟩ = some (.string key)) :
    Calls Tryd.prog 56 #[.slice A l.length c, .func (.func 67) #[] #[.pointer (some ⟨bk, 0, none⟩)]] w fun e w' => e = .returned (.int .i64 (fi (eqK key) l)) ∧ Below w.heap.size w w' := by
  go_enter Tryd.func56, Tryd.ntmps56
  go_wp2
  go_loopw [8] (fun i wr => ∃ k : Nat, k ≤ l.length ∧ i = .int .i64 k ∧ Below w.heap.size w wr ∧ PNone (eqK key) l k) (fun i _ => l.length - (intOf i).toNat)
  case atStart => exact ⟨0, Nat.zero_le _, rfl, Below.refl _ _, PNone.zero _ _⟩
  case round =>
    obtain ⟨k, hkl, rfl, hb, hn⟩ := hrel
    have hbs := hb.size
    by_cases hlt : k < l.length
    · obtain ⟨b, off, rfl, hB, c0, c1⟩ := (hA.below hb).pair hlt
      have hk' := (hb.cell (p := ⟨bk, 0, none⟩) hbk).trans hk
      cases hq : eqK key l[k] with
      | true =>
        go_wp2_with (go_at_call 67; refine (place1_fn l[k] key bk _ (by omega) hk').mono ?_; rintro e w' ⟨rfl, hb4⟩; rw [hq])
        go_ret
        exact ⟨ret_int (fi_hit hlt hn hq).symm, hb.trans (hb4.mono hbs)⟩
      | false =>
        go_wp2_with (go_at_call 67; refine (place1_fn l[k] key bk _ (by omega) hk').mono ?_; rintro e w' ⟨rfl, hb4⟩; rw [hq])
        go_roundw
        case rel => exact ⟨k + 1, by omega, by go_num, hb.trans (hb4.mono hbs), hn.succ hlt hq⟩
        case measure => simp [intOf]; omega
    · go_wp2
      go_ret
      exact ⟨ret_int (fi_miss (by omega) hn).symm, hb⟩

theorem set1_fn (p : Pair) (key : ByteArray) (b : Nat) (w : World) (hb : b < w.heap.size) (hc : w.cell? ⟨b, 0, none⟩ = some (.string key)) :
    Calls Tryd.prog 57 #[.agg #[.string p.key, .string p.val], .pointer (some ⟨b, 0, none⟩)] w fun e w' => e = .returned (.bool (gtK key p)) ∧ Below w.heap.size w w' := by
  go_enter Tryd.func57, Tryd.ntmps57
  go_wp2
  go_ret
  exact ⟨rfl, (by repeat (first | exact Below.refl _ _ | assumption | refine Below.drew ?_ | refine below_drewN ?_ _ | refine Below.alloc ?_ (by first | omega | (simp; done) | (simp; omega)) _ | refine Below.setCell ?_ (by first | omega | (simp; done) | (simp; omega)) _))⟩
set_option maxHeartbeats 1000000 in
theorem set1_idx (l : List Pair) (A : Option Addr) (c : Nat) (key : ByteArray) (bk : Nat) (w : World) (hA : Arr Pair.enc 2 w w.heap.size A l) (hc : l.length ≤ c) (hm : c ≤ 9223372036854775807) (hbk : bk < w.heap.size) (hk : w.cell? ⟨bk, 0, none⟩ = some (.string key)) :
    Calls Tryd.prog 56 #[.slice A l.length c, .func (.func 57) #[] #[.pointer (some ⟨bk, 0, none⟩)]] w fun e w' => e = .returned (.int .i64 (fi (gtK key) l)) ∧ Below w.heap.size w w' := by
  go_enter Tryd.func56, Tryd.ntmps56
  go_wp2
  go_loopw [8] (fun i wr => ∃ k : Nat, k ≤ l.length ∧ i = .int .i64 k ∧ Below w.heap.size w wr ∧ PNone (gtK key) l k) (fun i _ => l.length - (intOf i).toNat)
  case atStart => exact ⟨0, Nat.zero_le _, rfl, Below.refl _ _, PNone.zero _ _⟩
  case round =>
    obtain ⟨k, hkl, rfl, hb, hn⟩ := hrel
    have hbs := hb.size
    by_cases hlt : k < l.length
    · obtain ⟨b, off, rfl, hB, c0, c1⟩ := (hA.below hb).pair hlt
      have hk' := (hb.cell (p := ⟨bk, 0, none⟩) hbk).trans hk
      cases hq : gtK key l[k] with
      | true =>
        go_wp2_with (go_at_call 57; refine (set1_fn l[k] key bk _ (by omega) hk').mono ?_; rintro e w' ⟨rfl, hb4⟩; rw [hq])
        go_ret
        exact ⟨ret_int (fi_hit hlt hn hq).symm, hb.trans (hb4.mono hbs)⟩
      | false =>
        go_wp2_with (go_at_call 57; refine (set1_fn l[k] key bk _ (by omega) hk').mono ?_; rintro e w' ⟨rfl, hb4⟩; rw [hq])
        go_roundw
        case rel => exact ⟨k + 1, by omega, by go_num, hb.trans (hb4.mono hbs), hn.succ hlt hq⟩
        case measure => simp [intOf]; omega
    · go_wp2
      go_ret
      exact ⟨ret_int (fi_miss (by omega) hn).symm, hb⟩

theorem drop1_fn (p : Pair) (key : ByteArray) (b : Nat) (w : World) (hb : b < w.heap.size) (hc : w.cell? ⟨b, 0, none⟩ = some (.string key)) :
    Calls Tryd.prog 60 #[.agg #[.string p.key, .string p.val], .pointer (some ⟨b, 0, none⟩)] w fun e w' => e = .returned (.bool (eqK key p)) ∧ Below w.heap.size w w' := by
  go_enter Tryd.func60, Tryd.ntmps60
  go_wp2
  go_ret
  exact ⟨rfl, (by repeat (first | exact Below.refl _ _ | assumption | refine Below.drew ?_ | refine below_drewN ?_ _ | refine Below.alloc ?_ (by first | omega | (simp; done) | (simp; omega)) _ | refine Below.setCell ?_ (by first | omega | (simp; done) | (simp; omega)) _))⟩
set_option maxHeartbeats 1000000 in
theorem drop1_idx (l : List Pair) (A : Option Addr) (c : Nat) (key : ByteArray) (bk : Nat) (w : World) (hA : Arr Pair.enc 2 w w.heap.size A l) (hc : l.length ≤ c) (hm : c ≤ 9223372036854775807) (hbk : bk < w.heap.size) (hk : w.cell? ⟨bk, 0, none⟩ = some (.string key)) :
    Calls Tryd.prog 56 #[.slice A l.length c, .func (.func 60) #[] #[.pointer (some ⟨bk, 0, none⟩)]] w fun e w' => e = .returned (.int .i64 (fi (eqK key) l)) ∧ Below w.heap.size w w' := by
  go_enter Tryd.func56, Tryd.ntmps56
  go_wp2
  go_loopw [8] (fun i wr => ∃ k : Nat, k ≤ l.length ∧ i = .int .i64 k ∧ Below w.heap.size w wr ∧ PNone (eqK key) l k) (fun i _ => l.length - (intOf i).toNat)
  case atStart => exact ⟨0, Nat.zero_le _, rfl, Below.refl _ _, PNone.zero _ _⟩
  case round =>
    obtain ⟨k, hkl, rfl, hb, hn⟩ := hrel
    have hbs := hb.size
    by_cases hlt : k < l.length
    · obtain ⟨b, off, rfl, hB, c0, c1⟩ := (hA.below hb).pair hlt
      have hk' := (hb.cell (p := ⟨bk, 0, none⟩) hbk).trans hk
      cases hq : eqK key l[k] with
      | true =>
        go_wp2_with (go_at_call 60; refine (drop1_fn l[k] key bk _ (by omega) hk').mono ?_; rintro e w' ⟨rfl, hb4⟩; rw [hq])
        go_ret
        exact ⟨ret_int (fi_hit hlt hn hq).symm, hb.trans (hb4.mono hbs)⟩
      | false =>
        go_wp2_with (go_at_call 60; refine (drop1_fn l[k] key bk _ (by omega) hk').mono ?_; rintro e w' ⟨rfl, hb4⟩; rw [hq])
        go_roundw
        case rel => exact ⟨k + 1, by omega, by go_num, hb.trans (hb4.mono hbs), hn.succ hlt hq⟩
        case measure => simp [intOf]; omega
    · go_wp2
      go_ret
      exact ⟨ret_int (fi_miss (by omega) hn).symm, hb⟩

theorem place_any (s : Shelf) (PA : Option Addr) (pc : Nat) (QA : Option Addr) (qn qc : Nat) (key : ByteArray) (w : World) (hA : Arr Pair.enc 2 w w.heap.size PA s.pairs) (hc : s.pairs.length ≤ pc) (hm : pc ≤ 9223372036854775807) :
    Calls Tryd.prog 55 #[.agg #[.slice PA s.pairs.length pc, .slice QA qn qc], .string key] w fun e w' => e = .returned (.int .i64 (fi (eqK key) s.pairs)) ∧ Below w.heap.size w w' := by
  have H := hid hA
  clear hA
  go_enter Tryd.func55, Tryd.ntmps55
  go_wp2_with fail
  refine (place1_idx s.pairs PA pc key (w.heap.size + 1) _ ?_ hc hm ?_ ?_).mono ?_
  · exact (H.out.below (by repeat (first | exact Below.refl _ _ | assumption | refine Below.drew ?_ | refine below_drewN ?_ _ | refine Below.alloc ?_ (by first | omega | (simp; done) | (simp; omega)) _ | refine Below.setCell ?_ (by first | omega | (simp; done) | (simp; omega)) _))).more (by first | omega | (simp; done) | (simp; omega))
  · simp
  · simp [go_sem]
  rintro e w' ⟨rfl, hb⟩
  go_wp2
  go_ret
  exact ⟨rfl, Below.trans (b := (w.alloc (.cells #[.slice PA s.pairs.length pc, .slice QA qn qc] 25)).alloc (.cells #[.string key] 9)) (by repeat (first | exact Below.refl _ _ | assumption | refine Below.drew ?_ | refine below_drewN ?_ _ | refine Below.alloc ?_ (by first | omega | (simp; done) | (simp; omega)) _ | refine Below.setCell ?_ (by first | omega | (simp; done) | (simp; omega)) _)) (hb.mono (by first | omega | (simp; done) | (simp; omega)))⟩
theorem fi_range {q : Pair → Bool} {l : List Pair} : fi q l = -1 ∨ ∃ k : Nat, k < l.length ∧ fi q l = (k : Int) := by
  unfold fi
  split
  · exact .inr ⟨_, ‹_›, rfl⟩
  · exact .inl rfl
/-- a key's value, and whether it has one -/
def getD' (l : List Pair) (key : ByteArray) : ByteArray × Bool := match l.find? (eqK key) with | some p => (p.val, true) | none => (ByteArray.empty, false)
theorem fi_find {q : Pair → Bool} {l : List Pair} {k : Nat} (hk : k < l.length) (h : fi q l = (k : Int)) : l.find? q = some l[k] := by
  have e : l.findIdx q = k := by
    unfold fi at h
    split at h
    · omega
    · omega
  have h1 := (List.findIdx_eq hk).1 e
  rw [List.find?_eq_some_iff_getElem]
  exact ⟨h1.1, k, hk, rfl, fun j hj => by simp [h1.2 j hj]⟩
theorem fi_find_none {q : Pair → Bool} {l : List Pair} (h : fi q l = -1) : l.find? q = none := by
  unfold fi at h
  split at h
  · omega
  · rename_i hlt
    rw [List.find?_eq_none]
    intro x hx hq
    exact hlt (List.findIdx_lt_length_of_exists ⟨x, hx, hq⟩)
set_option maxHeartbeats 1000000 in
theorem get_any (s : Shelf) (PA : Option Addr) (pc : Nat) (QA : Option Addr) (qn qc : Nat) (key : ByteArray) (w : World) (hA : Arr Pair.enc 2 w w.heap.size PA s.pairs) (hc : s.pairs.length ≤ pc) (hm : pc ≤ 9223372036854775807) :
    Calls Tryd.prog 39 #[.agg #[.slice PA s.pairs.length pc, .slice QA qn qc], .string key] w fun e w' => e = .returned (.tuple #[.string (getD' s.pairs key).1, .bool (getD' s.pairs key).2]) ∧ Below w.heap.size w w' := by
  have H := hid hA
  clear hA
  rcases fi_range (q := eqK key) (l := s.pairs) with hf | ⟨k, hk, hf⟩
  · have e : getD' s.pairs key = (ByteArray.empty, false) := by rw [getD', fi_find_none hf]
    rw [e]
    clear e
    have HF := hid hf
    clear hf
    go_enter Tryd.func39, Tryd.ntmps39
    go_wp2_with (go_at_call 55; refine (place_any s PA pc QA qn qc key _ ?_ hc hm).mono ?_; (exact (H.out.below (by repeat (first | exact Below.refl _ _ | assumption | refine Below.drew ?_ | refine below_drewN ?_ _ | refine Below.alloc ?_ (by first | omega | (simp; done) | (simp; omega)) _ | refine Below.setCell ?_ (by first | omega | (simp; done) | (simp; omega)) _))).more (by first | omega | (simp; done) | (simp; omega))); rintro e w' ⟨rfl, hb⟩; rw [HF.out])
    go_ret2
    exact ⟨rfl, Below.trans (b := w.alloc (.cells #[.slice PA s.pairs.length pc, .slice QA qn qc] 25)) (by repeat (first | exact Below.refl _ _ | assumption | refine Below.drew ?_ | refine below_drewN ?_ _ | refine Below.alloc ?_ (by first | omega | (simp; done) | (simp; omega)) _ | refine Below.setCell ?_ (by first | omega | (simp; done) | (simp; omega)) _)) (hb.mono (by first | omega | (simp; done) | (simp; omega)))⟩
  · have e : getD' s.pairs key = (s.pairs[k].val, true) := by rw [getD', fi_find hk hf]
    rw [e]
    clear e
    have HF := hid hf
    clear hf
    go_enter Tryd.func39, Tryd.ntmps39
    go_wp2_with (go_at_call 55; refine (place_any s PA pc QA qn qc key _ ?_ hc hm).mono ?_; (exact (H.out.below (by repeat (first | exact Below.refl _ _ | assumption | refine Below.drew ?_ | refine below_drewN ?_ _ | refine Below.alloc ?_ (by first | omega | (simp; done) | (simp; omega)) _ | refine Below.setCell ?_ (by first | omega | (simp; done) | (simp; omega)) _))).more (by first | omega | (simp; done) | (simp; omega))); rintro e w' ⟨rfl, hb⟩; rw [HF.out]; have hbw : Below w.heap.size w w' := Below.trans (b := w.alloc (.cells #[.slice PA s.pairs.length pc, .slice QA qn qc] 25)) (by repeat (first | exact Below.refl _ _ | assumption | refine Below.drew ?_ | refine below_drewN ?_ _ | refine Below.alloc ?_ (by first | omega | (simp; done) | (simp; omega)) _ | refine Below.setCell ?_ (by first | omega | (simp; done) | (simp; omega)) _)) (hb.mono (by first | omega | (simp; done) | (simp; omega))); obtain ⟨b, off, rfl, hB, c0, c1⟩ := (H.out.below hbw).pair hk; have e0 := hb.cell (p := ⟨w.heap.size, 0, none⟩) (by first | omega | (simp; done) | (simp; omega)))
    go_ret2
    exact ⟨rfl, hbw⟩
end Go.Proofs.YtamcehfcjcmpmaaDoor
