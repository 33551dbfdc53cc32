/- The program's package ideal and its reference: which calls are good. -/
import Derived.Test.YtamcehfcjcmpmaaDoorRows
import Derived.Test.YtamcehfcjcmpmaaDoorBase
import Derived.Deep.QuietTactic
import Derived.BigQuiet
import Derived.WalkSpells
import Derived.WalkLawsBesides
namespace Go.Proofs.YtamcehfcjcmpmaaDoor
open Go.RowKit

/-- a call, as its five cells say it; the group's slice as it stands -/
structure Call0 where
  kind : Int
  key : ByteArray
  val : ByteArray
  to : ByteArray
  gA : Option Addr
  gn : Nat
  gc : Nat
  deriving Inhabited
def Call0.enc (c : Call0) : List Value := [.int .i64 c.kind, .string c.key, .string c.val, .string c.to, .slice c.gA c.gn c.gc]
theorem Call0.enc_len (c : Call0) : c.enc.length = 5 := rfl
theorem Arr.call0 {w : World} {B : Nat} {A : Option Addr} {l : List Call0} (h : Arr Call0.enc 5 w B A l) {i : Nat} (hi : i < l.length) :
    ∃ b off, A = some ⟨b, off, none⟩ ∧ b < B ∧ w.cell? ⟨b, off + i * 5, none⟩ = some (.int .i64 l[i].kind) ∧ w.cell? ⟨b, off + i * 5 + 1, none⟩ = some (.string l[i].key) ∧
      w.cell? ⟨b, off + i * 5 + 2, none⟩ = some (.string l[i].val) ∧ w.cell? ⟨b, off + i * 5 + 3, none⟩ = some (.string l[i].to) ∧ w.cell? ⟨b, off + i * 5 + 4, none⟩ = some (.slice l[i].gA l[i].gn l[i].gc) := by
  rcases h with h | ⟨b, off, hA, hB, hc⟩
  · subst h; simp at hi
  · exact ⟨b, off, hA, hB, hc i hi 0 _ rfl, hc i hi 1 _ rfl, hc i hi 2 _ rfl, hc i hi 3 _ rfl, hc i hi 4 _ rfl⟩

def keyedB (k : Int) : Bool := k == 1 || k == 2 || k == 3
def groupedB (k : Int) : Bool := k == 2 || k == 3 || k == 4
theorem keyed_any (k : Int) (w : World) : Calls Tryd.prog 33 #[.int .i64 k] w fun e w' => e = .returned (.bool (keyedB k)) ∧ w = w' := by
  go_enter Tryd.func33, Tryd.ntmps33
  go_wp2
  all_goals (go_ret; exact ⟨ret_bool (by simp [keyedB, *]), rfl⟩)
theorem grouped_any (k : Int) (w : World) : Calls Tryd.prog 34 #[.int .i64 k] w fun e w' => e = .returned (.bool (groupedB k)) ∧ w = w' := by
  go_enter Tryd.func34, Tryd.ntmps34
  go_wp2
  all_goals (go_ret; exact ⟨ret_bool (by simp [groupedB, *]), rfl⟩)
/-- is something of a call that is no group too long? -/
def flatLong (c : Call0) : Bool :=
  if c.kind = 1 ∨ c.kind = 3 then decide ((16 : Int) < (c.key.size : Int)) else if c.kind = 2 then (decide ((16 : Int) < (c.key.size : Int)) || decide ((400 : Int) < (c.val.size : Int))) else if c.kind = 4 then decide ((400 : Int) < (c.val.size : Int))
  else if c.kind = 6 then (decide ((16 : Int) < (c.key.size : Int)) || decide ((16 : Int) < (c.to.size : Int))) else false
set_option maxHeartbeats 1000000 in
theorem long_flat (c : Call0) (h7 : c.kind ≠ 7) (w : World) : Calls Tryd.prog 25 #[.agg #[.int .i64 c.kind, .string c.key, .string c.val, .string c.to, .slice c.gA c.gn c.gc]] w fun e w' => e = .returned (.bool (flatLong c)) ∧ Below w.heap.size w w' := by
  obtain ⟨k, key, val, to, gA, gn, gc⟩ := c
  simp only at h7 ⊢
  go_enter Tryd.func25, Tryd.ntmps25
  go_wp2
  all_goals (go_ret; exact ⟨ret_bool (by simp_all [flatLong]), (by repeat (first | exact Below.refl _ _ | assumption | refine Below.drew ?_ | refine below_drewN ?_ _ | refine Below.alloc ?_ (by first | omega | (simp; done) | (simp; omega)) _ | refine Below.setCell ?_ (by first | omega | (simp; done) | (simp; omega)) _))⟩)

theorem any_yes {l : List Call0} {k : Nat} (hk : k < l.length) {p : Call0 → Bool} (h : p l[k] = true) : l.any p = true :=
  List.any_eq_true.2 ⟨_, List.getElem_mem hk, h⟩
theorem any_no {l : List Call0} {k : Nat} (hk : l.length ≤ k) {p : Call0 → Bool} (h : ∀ i, (hi : i < l.length) → i < k → p l[i] = false) : l.any p = false := by
  rw [Bool.eq_false_iff]
  intro hc
  obtain ⟨x, hx, hp⟩ := List.any_eq_true.1 hc
  obtain ⟨i, hi, rfl⟩ := List.mem_iff_getElem.1 hx
  rw [h i hi (by omega)] at hp
  cases hp
def NoneTo (p : Call0 → Bool) (l : List Call0) (k : Nat) : Prop := ∀ i, (hi : i < l.length) → i < k → p l[i] = false
theorem NoneTo.zero (p : Call0 → Bool) (l : List Call0) : NoneTo p l 0 := fun _ _ h => absurd h (by omega)
theorem NoneTo.succ {p : Call0 → Bool} {l : List Call0} {k : Nat} (hk : k < l.length) (h : NoneTo p l k) (h1 : p l[k] = false) : NoneTo p l (k + 1) := by
  intro i hi hlt
  rcases (by omega : i < k ∨ i = k) with h' | rfl
  · exact h i hi h'
  · exact h1
def SomeIdx (b : Bool) (w : World) (e : Ending) (w' : World) : Prop := ∃ r : Int, e = .returned (.int .i64 r) ∧ decide (0 ≤ r) = b ∧ Below w.heap.size w w'

set_option maxHeartbeats 1000000 in
theorem indexLong (l : List Call0) (A : Option Addr) (c : Nat) (w : World) (hA : Arr Call0.enc 5 w w.heap.size A l) (hc : l.length ≤ c) (hm : c ≤ 9223372036854775807) (hf : ∀ x ∈ l, x.kind ≠ 7) :
    Calls Tryd.prog 54 #[.slice A l.length c, .func (.func 25) #[] #[]] w (SomeIdx (l.any flatLong) w) := by
  have HF := hid hf
  clear hf
  go_enter Tryd.func54, Tryd.ntmps54
  go_wp2
  go_loopw [8] (fun i wr => ∃ k : Nat, k ≤ l.length ∧ i = .int .i64 k ∧ Below w.heap.size w wr ∧ NoneTo flatLong l k) (fun i _ => l.length - (intOf i).toNat)
  case atStart => exact ⟨0, Nat.zero_le _, rfl, Below.refl _ _, NoneTo.zero _ _⟩
  case round =>
    obtain ⟨k, hk, rfl, hb, hn⟩ := hrel
    have hbs := hb.size
    by_cases hlt : k < l.length
    · obtain ⟨b, off, rfl, hB, c0, c1, c2, c3, c4⟩ := (hA.below hb).call0 hlt
      have h7 : l[k].kind ≠ 7 := HF.out _ (List.getElem_mem hlt)
      have H7 := hid h7
      clear h7
      cases hl : flatLong l[k] with
      | true =>
        go_wp2_with (go_at_call 25; refine (long_flat l[k] H7.out _).mono ?_; rintro e w' ⟨rfl, hb4⟩; rw [hl])
        go_ret
        exact ⟨_, rfl, by rw [any_yes hlt hl]; simp, hb.trans (hb4.mono hbs)⟩
      | false =>
        go_wp2_with (go_at_call 25; refine (long_flat l[k] H7.out _).mono ?_; rintro e w' ⟨rfl, hb4⟩; rw [hl])
        go_roundw
        case rel => exact ⟨k + 1, by omega, by go_num, hb.trans (hb4.mono hbs), hn.succ hlt hl⟩
        case measure => simp [intOf]; omega
    · go_wp2
      go_ret
      exact ⟨_, rfl, by rw [any_no (by omega) hn]; rfl, hb⟩
theorem containsLong (l : List Call0) (A : Option Addr) (c : Nat) (w : World) (hA : Arr Call0.enc 5 w w.heap.size A l) (hc : l.length ≤ c) (hm : c ≤ 9223372036854775807) (hf : ∀ x ∈ l, x.kind ≠ 7) :
    Calls Tryd.prog 35 #[.slice A l.length c, .func (.func 25) #[] #[]] w fun e w' => e = .returned (.bool (l.any flatLong)) ∧ Below w.heap.size w w' := by
  have HF := hid hf
  clear hf
  go_enter Tryd.func35, Tryd.ntmps35
  go_wp2_with (go_at_call 54; refine (indexLong l _ _ _ hA hc hm HF.out).mono ?_; rintro e w' ⟨r, rfl, hr, hb⟩)
  go_ret
  exact ⟨ret_bool rfl, hb⟩
/-- is something of a call too long? g: its group -/
def longB (c : Call0) (g : List Call0) : Bool := if c.kind = 7 then g.any flatLong else flatLong c
theorem long_any (c : Call0) (g : List Call0) (w : World) (hA : Arr Call0.enc 5 w w.heap.size c.gA g) (hn : c.gn = g.length) (hc : g.length ≤ c.gc) (hm : c.gc ≤ 9223372036854775807) (hf : c.kind = 7 → ∀ x ∈ g, x.kind ≠ 7) :
    Calls Tryd.prog 25 #[.agg #[.int .i64 c.kind, .string c.key, .string c.val, .string c.to, .slice c.gA c.gn c.gc]] w fun e w' => e = .returned (.bool (longB c g)) ∧ Below w.heap.size w w' := by
  by_cases h7 : c.kind = 7
  · have HF := hid (hf h7)
    have e : longB c g = g.any flatLong := by simp [longB, h7]
    obtain ⟨k, key, val, to, gA, gn, gc⟩ := c
    simp only at h7 hA hn hc hm ⊢
    subst h7
    subst hn
    rw [e]
    clear hf e
    go_enter Tryd.func25, Tryd.ntmps25
    go_wp2_with (go_at_call 35; refine (containsLong g _ _ _ ((hA.below ((Below.refl _ w).alloc (Nat.le_refl _) _)).more (by simp)) hc hm HF.out).mono ?_; rintro e w' ⟨rfl, hb⟩)
    go_ret
    exact ⟨rfl, ((Below.refl _ w).alloc (Nat.le_refl _) _).trans (hb.mono (by simp))⟩
  · have e : longB c g = flatLong c := by simp [longB, h7]
    rw [e]
    exact long_flat c h7 w
end Go.Proofs.YtamcehfcjcmpmaaDoor
