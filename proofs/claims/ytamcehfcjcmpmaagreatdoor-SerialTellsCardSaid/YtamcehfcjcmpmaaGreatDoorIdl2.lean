/- The program's package ideal: the shape of a call. -/
import Derived.Test.YtamcehfcjcmpmaaGreatDoorRows
import Derived.Test.YtamcehfcjcmpmaaGreatDoorMem
import Derived.Deep.QuietTactic
import Derived.BigQuiet
import Derived.WalkSpells
import Derived.WalkLawsBesides
/- The program's package ideal and its reference: which calls are good. -/
namespace Go.Proofs.YtamcehfcjcmpmaaGreatDoor
open Go.RowKit

/-- a call, as its five cells say it; the group's slice as it stands -/
structure Call0 where
  kind : Int
  key : ByteArray
  val : ByteArray
  to : ByteArray
  gA : Option Addr
  gn : Nat
  gc : Nat
  deriving Inhabited
def Call0.enc (c : Call0) : List Value := [.int .i64 c.kind, .string c.key, .string c.val, .string c.to, .slice c.gA c.gn c.gc]
theorem Call0.enc_len (c : Call0) : c.enc.length = 5 := rfl
theorem Arr.call0 {w : World} {B : Nat} {A : Option Addr} {l : List Call0} (h : Arr Call0.enc 5 w B A l) {i : Nat} (hi : i < l.length) :
    ∃ b off, A = some ⟨b, off, none⟩ ∧ b < B ∧ w.cell? ⟨b, off + i * 5, none⟩ = some (.int .i64 l[i].kind) ∧ w.cell? ⟨b, off + i * 5 + 1, none⟩ = some (.string l[i].key) ∧
      w.cell? ⟨b, off + i * 5 + 2, none⟩ = some (.string l[i].val) ∧ w.cell? ⟨b, off + i * 5 + 3, none⟩ = some (.string l[i].to) ∧ w.cell? ⟨b, off + i * 5 + 4, none⟩ = some (.slice l[i].gA l[i].gn l[i].gc) := by
  rcases h with h | ⟨b, off, hA, hB, hc⟩
  · subst h; simp at hi
  · exact ⟨b, off, hA, hB, hc i hi 0 _ rfl, hc i hi 1 _ rfl, hc i hi 2 _ rfl, hc i hi 3 _ rfl, hc i hi 4 _ rfl⟩

def keyedB (k : Int) : Bool := k == 1 || k == 2 || k == 3
def groupedB (k : Int) : Bool := k == 2 || k == 3 || k == 4
theorem keyed_any (k : Int) (w : World) : Calls Tryz.prog 75 #[.int .i64 k] w fun e w' => e = .returned (.bool (keyedB k)) ∧ w = w' := by
  go_enter Tryz.func75, Tryz.ntmps75
  go_wp2
  all_goals (go_ret; exact ⟨ret_bool (by simp [keyedB, *]), rfl⟩)
theorem grouped_any (k : Int) (w : World) : Calls Tryz.prog 76 #[.int .i64 k] w fun e w' => e = .returned (.bool (groupedB k)) ∧ w = w' := by
  go_enter Tryz.func76, Tryz.ntmps76
  go_wp2
  all_goals (go_ret; exact ⟨ret_bool (by simp [groupedB, *]), rfl⟩)
/-- is something of a call that is no group too long? -/
def flatLong (c : Call0) : Bool :=
  if c.kind = 1 ∨ c.kind = 3 then decide ((16 : Int) < (c.key.size : Int)) else if c.kind = 2 then (decide ((16 : Int) < (c.key.size : Int)) || decide ((400 : Int) < (c.val.size : Int))) else if c.kind = 4 then decide ((400 : Int) < (c.val.size : Int))
  else if c.kind = 6 then (decide ((16 : Int) < (c.key.size : Int)) || decide ((16 : Int) < (c.to.size : Int))) else false
set_option maxHeartbeats 1000000 in
theorem long_flat (c : Call0) (h7 : c.kind ≠ 7) (w : World) : Calls Tryz.prog 60 #[.agg #[.int .i64 c.kind, .string c.key, .string c.val, .string c.to, .slice c.gA c.gn c.gc]] w fun e w' => e = .returned (.bool (flatLong c)) ∧ Below w.heap.size w w' := by
  obtain ⟨k, key, val, to, gA, gn, gc⟩ := c
  simp only at h7 ⊢
  go_enter Tryz.func60, Tryz.ntmps60
  go_wp2
  all_goals (go_ret; exact ⟨ret_bool (by simp_all [flatLong]), (by repeat (first | exact Below.refl _ _ | assumption | refine Below.drew ?_ | refine below_drewN ?_ _ | refine Below.alloc ?_ (by first | omega | (simp; done) | (simp; omega)) _ | refine Below.setCell ?_ (by first | omega | (simp; done) | (simp; omega)) _))⟩)

theorem any_yes {l : List Call0} {k : Nat} (hk : k < l.length) {p : Call0 → Bool} (h : p l[k] = true) : l.any p = true :=
  List.any_eq_true.2 ⟨_, List.getElem_mem hk, h⟩
theorem any_no {l : List Call0} {k : Nat} (hk : l.length ≤ k) {p : Call0 → Bool} (h : ∀ i, (hi : i < l.length) → i < k → p l[i] = false) : l.any p = false := by
  rw [Bool.eq_false_iff]
  intro hc
  obtain ⟨x, hx, hp⟩ := List.any_eq_true.1 hc
  obtain ⟨i, hi, rfl⟩ := List.mem_iff_getElem.1 hx
  rw [h i hi (by omega)] at hp
  cases hp
def NoneTo (p : Call0 → Bool) (l : List Call0) (k : Nat) : Prop := ∀ i, (hi : i < l.length) → i < k → p l[i] = false
theorem NoneTo.zero (p : Call0 → Bool) (l : List Call0) : NoneTo p l 0 := fun _ _ h => absurd h (by omega)
theorem NoneTo.succ {p : Call0 → Bool} {l : List Call0} {k : Nat} (hk : k < l.length) (h : NoneTo p l k) (h1 : p l[k] = false) : NoneTo p l (k + 1) := by
  intro i hi hlt
  rcases (by omega : i < k ∨ i = k) with h' | rfl
  · exact h i hi h'
  · exact h1
def SomeIdx (b : Bool) (w : World) (e : Ending) (w' : World) : Prop := ∃ r : Int, e = .returned (.int .i64 r) ∧ decide (0 ≤ r) = b ∧ Below w.heap.size w w'

set_option maxHeartbeats 1000000 in
theorem indexLong (l : List Call0) (A : Option Addr) (c : Nat) (w : World) (hA : Arr Call0.enc 5 w w.heap.size A l) (hc : l.length ≤ c) (hm : c ≤ 9223372036854775807) (hf : ∀ x ∈ l, x.kind ≠ 7) :
    Calls Tryz.prog 91 #[.slice A l.length c, .func (.func 60) #[] #[]] w (SomeIdx (l.any flatLong) w) := by
  have HF := hid hf
  clear hf
  go_enter Tryz.func91, Tryz.ntmps91
  go_wp2
  go_loopw [8] (fun i wr => ∃ k : Nat, k ≤ l.length ∧ i = .int .i64 k ∧ Below w.heap.size w wr ∧ NoneTo flatLong l k) (fun i _ => l.length - (intOf i).toNat)
  case atStart => exact ⟨0, Nat.zero_le _, rfl, Below.refl _ _, NoneTo.zero _ _⟩
  case round =>
    obtain ⟨k, hk, rfl, hb, hn⟩ := hrel
    have hbs := hb.size
    by_cases hlt : k < l.length
    · obtain ⟨b, off, rfl, hB, c0, c1, c2, c3, c4⟩ := (hA.below hb).call0 hlt
      have h7 : l[k].kind ≠ 7 := HF.out _ (List.getElem_mem hlt)
      have H7 := hid h7
      clear h7
      cases hl : flatLong l[k] with
      | true =>
        go_wp2_with (go_at_call 60; refine (long_flat l[k] H7.out _).mono ?_; rintro e w' ⟨rfl, hb4⟩; rw [hl])
        go_ret
        exact ⟨_, rfl, by rw [any_yes hlt hl]; simp, hb.trans (hb4.mono hbs)⟩
      | false =>
        go_wp2_with (go_at_call 60; refine (long_flat l[k] H7.out _).mono ?_; rintro e w' ⟨rfl, hb4⟩; rw [hl])
        go_roundw
        case rel => exact ⟨k + 1, by omega, by go_num, hb.trans (hb4.mono hbs), hn.succ hlt hl⟩
        case measure => simp [intOf]; omega
    · go_wp2
      go_ret
      exact ⟨_, rfl, by rw [any_no (by omega) hn]; rfl, hb⟩
theorem containsLong (l : List Call0) (A : Option Addr) (c : Nat) (w : World) (hA : Arr Call0.enc 5 w w.heap.size A l) (hc : l.length ≤ c) (hm : c ≤ 9223372036854775807) (hf : ∀ x ∈ l, x.kind ≠ 7) :
    Calls Tryz.prog 77 #[.slice A l.length c, .func (.func 60) #[] #[]] w fun e w' => e = .returned (.bool (l.any flatLong)) ∧ Below w.heap.size w w' := by
  have HF := hid hf
  clear hf
  go_enter Tryz.func77, Tryz.ntmps77
  go_wp2_with (go_at_call 91; refine (indexLong l _ _ _ hA hc hm HF.out).mono ?_; rintro e w' ⟨r, rfl, hr, hb⟩)
  go_ret
  exact ⟨ret_bool rfl, hb⟩
/-- is something of a call too long? g: its group -/
def longB (c : Call0) (g : List Call0) : Bool := if c.kind = 7 then g.any flatLong else flatLong c
theorem long_any (c : Call0) (g : List Call0) (w : World) (hA : Arr Call0.enc 5 w w.heap.size c.gA g) (hn : c.gn = g.length) (hc : g.length ≤ c.gc) (hm : c.gc ≤ 9223372036854775807) (hf : c.kind = 7 → ∀ x ∈ g, x.kind ≠ 7) :
    Calls Tryz.prog 60 #[.agg #[.int .i64 c.kind, .string c.key, .string c.val, .string c.to, .slice c.gA c.gn c.gc]] w fun e w' => e = .returned (.bool (longB c g)) ∧ Below w.heap.size w w' := by
  by_cases h7 : c.kind = 7
  · have HF := hid (hf h7)
    have e : longB c g = g.any flatLong := by simp [longB, h7]
    obtain ⟨k, key, val, to, gA, gn, gc⟩ := c
    simp only at h7 hA hn hc hm ⊢
    subst h7
    subst hn
    rw [e]
    clear hf e
    go_enter Tryz.func60, Tryz.ntmps60
    go_wp2_with (go_at_call 77; refine (containsLong g _ _ _ ((hA.below ((Below.refl _ w).alloc (Nat.le_refl _) _)).more (by simp)) hc hm HF.out).mono ?_; rintro e w' ⟨rfl, hb⟩)
    go_ret
    exact ⟨rfl, ((Below.refl _ w).alloc (Nat.le_refl _) _).trans (hb.mono (by simp))⟩
  · have e : longB c g = flatLong c := by simp [longB, h7]
    rw [e]
    exact long_flat c h7 w
end Go.Proofs.YtamcehfcjcmpmaaGreatDoor
namespace Go.Proofs.YtamcehfcjcmpmaaGreatDoor
open Go.RowKit

/-- what an element of a group may not be -/
def elemBad (x : Call0) : Bool := !groupedB x.kind || (keyedB x.kind && x.key.toList.isEmpty)
/-- two calls of one key -/
def clash (x y : Call0) : Bool := keyedB x.kind && keyedB y.kind && (x.key.toList == y.key.toList)

/-- may these stand together in a group? -/
def groupOk (g : List Call0) : Bool := (List.range g.length).all fun i => !elemBad (g.getD i default) && (List.range i).all fun j => !clash (g.getD i default) (g.getD j default)
/-- the first k may stand together -/
def okTo (g : List Call0) (k : Nat) : Prop := ∀ i, (hi : i < g.length) → i < k → elemBad g[i] = false ∧ ∀ j, (hj : j < i) → clash g[i] (g[j]'(by omega)) = false
/-- the k-th does not clash with the first m -/
def okAt (g : List Call0) (k m : Nat) : Prop := ∀ j, (hk : k < g.length) → (hj : j < k) → j < m → clash g[k] (g[j]'(by omega)) = false
theorem okTo_zero (g : List Call0) : okTo g 0 := fun _ _ h => absurd h (by omega)
theorem okAt_zero (g : List Call0) (k : Nat) : okAt g k 0 := fun _ _ _ h => absurd h (by omega)
theorem okAt_succ {g : List Call0} {k m : Nat} (hk : k < g.length) (hm : m < k) (h : okAt g k m) (h1 : clash g[k] (g[m]'(by omega)) = false) : okAt g k (m + 1) := by
  intro j _ hj hlt
  rcases (by omega : j < m ∨ j = m) with hj' | rfl
  · exact h j hk hj hj'
  · exact h1
theorem okTo_succ {g : List Call0} {k : Nat} (hk : k < g.length) (h : okTo g k) (h0 : elemBad g[k] = false) (h1 : okAt g k k) : okTo g (k + 1) := by
  intro i hi hlt
  rcases (by omega : i < k ∨ i = k) with hi' | rfl
  · exact h i hi hi'
  · exact ⟨h0, fun j hj => h1 j hi hj hj⟩
theorem groupOk_yes {g : List Call0} {k : Nat} (hk : g.length ≤ k) (h : okTo g k) : groupOk g = true := by
  simp only [groupOk, List.all_eq_true, List.mem_range, Bool.and_eq_true, Bool.not_eq_true']
  intro i hi
  obtain ⟨h1, h2⟩ := h i hi (by omega)
  rw [getD_in hi]
  exact ⟨h1, fun j hj => by rw [getD_in (show j < g.length by omega)]; exact h2 j hj⟩
theorem groupOk_bad {g : List Call0} {k : Nat} (hk : k < g.length) (h : elemBad g[k] = true) : groupOk g = false := by
  rw [Bool.eq_false_iff]
  intro hc
  simp only [groupOk, List.all_eq_true, List.mem_range, Bool.and_eq_true, Bool.not_eq_true'] at hc
  have := (hc k hk).1
  rw [getD_in hk, h] at this
  cases this
theorem groupOk_clash {g : List Call0} {k m : Nat} (hk : k < g.length) (hm : m < k) (h : clash g[k] (g[m]'(by omega)) = true) : groupOk g = false := by
  rw [Bool.eq_false_iff]
  intro hc
  simp only [groupOk, List.all_eq_true, List.mem_range, Bool.and_eq_true, Bool.not_eq_true'] at hc
  have := (hc k hk).2 m hm
  rw [getD_in hk, getD_in (show m < g.length by omega), h] at this
  cases this

set_option maxHeartbeats 4000000 in
theorem shape_group (g : List Call0) (A : Option Addr) (gc : Nat) (key val to : ByteArray) (w : World) (hA : Arr Call0.enc 5 w w.heap.size A g) (hc : g.length ≤ gc) (_hm : gc ≤ 9223372036854775807) (h1 : 1 ≤ g.length) (h3 : g.length ≤ 3) :
    Calls Tryz.prog 59 #[.agg #[.int .i64 7, .string key, .string val, .string to, .slice A g.length gc]] w fun e w' => e = .returned (.bool (groupOk g)) ∧ Below w.heap.size w w' := by
  have hk7 : keyedB 7 = false := by decide +kernel
  have h1' : ((g.length : Int) < 1) = False := by simp; omega
  have h3' : ((3 : Int) < (g.length : Int)) = False := by simp; omega
  go_enter Tryz.func59, Tryz.ntmps59
  go_wp2_with (go_at_call 75; refine (keyed_any _ _).mono ?_; rintro e w' ⟨rfl, rfl⟩; rw [hk7])
  clear h1' h3' hk7
  go_loopw [41] (fun i wr => ∃ k : Nat, k ≤ g.length ∧ i = .int .i64 k ∧ Below (w.heap.size + 1) (w.alloc (.cells #[.int .i64 7, .string key, .string val, .string to, .slice A g.length gc] 46)) wr ∧ okTo g k) (fun i _ => g.length - (intOf i).toNat)
  case atStart => exact ⟨0, Nat.zero_le _, rfl, Below.refl _ _, okTo_zero _⟩
  case round =>
    obtain ⟨k, hk, rfl, hb, hok⟩ := hrel
    have hbw : Below w.heap.size w wr := ((Below.refl _ w).alloc (Nat.le_refl _) _).trans (hb.mono (by simp))
    have hbs := new_size hb
    by_cases hlt : k < g.length
    · obtain ⟨b, off, rfl, hB, c0, c1, c2, c3, c4⟩ := (hA.below hbw).call0 hlt
      have e4 : wr.cell? ⟨w.heap.size, 4, none⟩ = some (.slice (some ⟨b, off, none⟩) g.length gc) := new_cell hb 4
      obtain ⟨wo, rfl⟩ : ∃ wo : World, wo = wr := ⟨_, rfl⟩
      cases hbad : elemBad g[k] with
      | true =>
        cases hgr : groupedB g[k].kind with
        | false =>
          go_wp2_with (first | (go_at_call 75; refine (keyed_any _ _).mono ?_; rintro e w' ⟨rfl, rfl⟩) | (go_at_call 76; refine (grouped_any _ _).mono ?_; rintro e w' ⟨rfl, rfl⟩; rw [hgr]))
          go_ret
          exact ⟨ret_bool (groupOk_bad hlt hbad).symm, (by repeat (first | exact Below.refl _ _ | assumption | refine Below.drew ?_ | refine below_drewN ?_ _ | refine Below.alloc ?_ (by first | omega | (simp; done) | (simp; omega)) _ | refine Below.setCell ?_ (by first | omega | (simp; done) | (simp; omega)) _))⟩
        | true =>
          obtain ⟨hky, hke⟩ : keyedB g[k].kind = true ∧ g[k].key.toList.isEmpty = true := by simpa [elemBad, hgr] using hbad
          go_wp2_with (first | (go_at_call 75; refine (keyed_any _ _).mono ?_; rintro e w' ⟨rfl, rfl⟩; rw [hky]) | (go_at_call 76; refine (grouped_any _ _).mono ?_; rintro e w' ⟨rfl, rfl⟩; rw [hgr]))
          go_ret
          exact ⟨ret_bool (groupOk_bad hlt hbad).symm, (by repeat (first | exact Below.refl _ _ | assumption | refine Below.drew ?_ | refine below_drewN ?_ _ | refine Below.alloc ?_ (by first | omega | (simp; done) | (simp; omega)) _ | refine Below.setCell ?_ (by first | omega | (simp; done) | (simp; omega)) _))⟩
      | false =>
        have hgr : groupedB g[k].kind = true := by
          cases h : groupedB g[k].kind with
          | true => rfl
          | false => simp [elemBad, h] at hbad
        have hke : keyedB g[k].kind = true → g[k].key.toList.isEmpty = false := by
          intro h
          simpa [elemBad, h, hgr] using hbad
        have HB := hid hbad
        clear hbad
        cases hky : keyedB g[k].kind with
        | false =>
          clear hke
          have hcl : ∀ j, (hj : j < k) → clash g[k] (g[j]'(by omega)) = false := fun j hj => by simp [clash, hky]
          have HC := hid hcl
          clear hcl
          go_wp2_with (first | (go_at_call 75; refine (keyed_any _ _).mono ?_; rintro e w' ⟨rfl, rfl⟩; rw [hky]) | (go_at_call 76; refine (grouped_any _ _).mono ?_; rintro e w' ⟨rfl, rfl⟩; rw [hgr]))
          go_loopw [65] (fun i wr => ∃ m : Nat, m ≤ k ∧ i = .int .i64 m ∧ Below (wo.heap.size + 1) (wo.alloc (.cells #[.int .i64 g[k].kind, .string g[k].key, .string g[k].val, .string g[k].to, .slice g[k].gA g[k].gn g[k].gc] 46)) wr) (fun i _ => k - (intOf i).toNat)
          case atStart => exact ⟨0, Nat.zero_le _, rfl, Below.refl _ _⟩
          case round =>
            obtain ⟨m, hmk, rfl, hb2⟩ := hrel
            have hb3 : Below (w.heap.size + 1) (w.alloc (.cells #[.int .i64 7, .string key, .string val, .string to, .slice (some ⟨b, off, none⟩) g.length gc] 46)) wr := (hb.alloc (by omega) _).trans (hb2.mono (by omega))
            have hb4 : Below w.heap.size w wr := ((Below.refl _ w).alloc (Nat.le_refl _) _).trans (hb3.mono (by simp))
            have hz2 := new_size hb2
            by_cases hlt2 : m < k
            · obtain ⟨b', off', hbo, hB', d0, d1, d2, d3, d4⟩ := (hA.below hb4).call0 (show m < g.length by omega)
              have f0 : wr.cell? ⟨wo.heap.size, 0, none⟩ = some (.int .i64 g[k].kind) := new_cell hb2 0
              obtain ⟨rfl, rfl⟩ : b = b' ∧ off = off' := by simpa using hbo
              clear hbo
              go_wp2_with (go_at_call 75; refine (keyed_any _ _).mono ?_; rintro e w' ⟨rfl, rfl⟩; rw [hky])
              go_roundw
              case rel => exact ⟨m + 1, by omega, by go_num, hb2.alloc (by omega) _⟩
              case measure => simp [intOf]; omega
            · go_wp2
              go_roundw
              case rel => exact ⟨k + 1, by omega, by go_num, hb3, okTo_succ hlt hok HB.out (fun j _ hj _ => HC.out j hj)⟩
              case measure => simp [intOf]; omega
        | true =>
          have hke := hke hky
          go_wp2_with (first | (go_at_call 75; refine (keyed_any _ _).mono ?_; rintro e w' ⟨rfl, rfl⟩; rw [hky]) | (go_at_call 76; refine (grouped_any _ _).mono ?_; rintro e w' ⟨rfl, rfl⟩; rw [hgr]))
          clear hke
          go_loopw [65] (fun i wr => ∃ m : Nat, m ≤ k ∧ i = .int .i64 m ∧ Below (wo.heap.size + 1) (wo.alloc (.cells #[.int .i64 g[k].kind, .string g[k].key, .string g[k].val, .string g[k].to, .slice g[k].gA g[k].gn g[k].gc] 46)) wr ∧ okAt g k m) (fun i _ => k - (intOf i).toNat)
          case atStart => exact ⟨0, Nat.zero_le _, rfl, Below.refl _ _, okAt_zero _ _⟩
          case round =>
            obtain ⟨m, hmk, rfl, hb2, hat⟩ := hrel
            have hb3 : Below (w.heap.size + 1) (w.alloc (.cells #[.int .i64 7, .string key, .string val, .string to, .slice (some ⟨b, off, none⟩) g.length gc] 46)) wr := (hb.alloc (by omega) _).trans (hb2.mono (by omega))
            have hb4 : Below w.heap.size w wr := ((Below.refl _ w).alloc (Nat.le_refl _) _).trans (hb3.mono (by simp))
            have hz2 := new_size hb2
            by_cases hlt2 : m < k
            · obtain ⟨b', off', hbo, hB', d0, d1, d2, d3, d4⟩ := (hA.below hb4).call0 (show m < g.length by omega)
              have f0 : wr.cell? ⟨wo.heap.size, 0, none⟩ = some (.int .i64 g[k].kind) := new_cell hb2 0
              have f1 : wr.cell? ⟨wo.heap.size, 1, none⟩ = some (.string g[k].key) := new_cell hb2 1
              obtain ⟨rfl, rfl⟩ : b = b' ∧ off = off' := by simpa using hbo
              clear hbo
              cases hkm : keyedB g[m].kind with
              | false =>
                have hcl : clash g[k] g[m] = false := by simp [clash, hkm]
                go_wp2_with (go_at_call 75; refine (keyed_any _ _).mono ?_; rintro e w' ⟨rfl, rfl⟩; first | rw [hky] | rw [hkm])
                go_roundw
                case rel => exact ⟨m + 1, by omega, by go_num, hb2.alloc (by omega) _, okAt_succ hlt hlt2 hat hcl⟩
                case measure => simp [intOf]; omega
              | true =>
                cases hke : (g[k].key.toList == g[m].key.toList) with
                | false =>
                  have hcl : clash g[k] g[m] = false := by simp [clash, hke]
                  go_wp2_with (go_at_call 75; refine (keyed_any _ _).mono ?_; rintro e w' ⟨rfl, rfl⟩; first | rw [hky] | rw [hkm])
                  go_roundw
                  case rel => exact ⟨m + 1, by omega, by go_num, hb2.alloc (by omega) _, okAt_succ hlt hlt2 hat hcl⟩
                  case measure => simp [intOf]; omega
                | true =>
                  have hcl : clash g[k] g[m] = true := by rw [clash, hky, hkm, hke]; rfl
                  go_wp2_with (go_at_call 75; refine (keyed_any _ _).mono ?_; rintro e w' ⟨rfl, rfl⟩; first | rw [hky] | rw [hkm])
                  go_ret
                  exact ⟨ret_bool (groupOk_clash hlt hlt2 hcl).symm, (by repeat (first | exact Below.refl _ _ | assumption | refine Below.drew ?_ | refine below_drewN ?_ _ | refine Below.alloc ?_ (by first | omega | (simp; done) | (simp; omega)) _ | refine Below.setCell ?_ (by first | omega | (simp; done) | (simp; omega)) _))⟩
            · go_wp2
              go_roundw
              case rel =>
                obtain rfl : m = k := by omega
                exact ⟨m + 1, by omega, by go_num, hb3, okTo_succ hlt hok HB.out hat⟩
              case measure => simp [intOf]; omega
    · go_wp2
      go_ret
      exact ⟨ret_bool (groupOk_yes (by omega) hok).symm, hbw⟩

/-- has a call a shape? -/
def shapeB (c : Call0) (g : List Call0) : Bool :=
  if c.kind < 1 ∨ 8 < c.kind then false else if (keyedB c.kind && c.key.toList.isEmpty) = true then false else if c.kind ≠ 7 then true else if g.length < 1 ∨ 3 < g.length then false else groupOk g
/-- a call and its group lie in memory -/
structure CallIn (w : World) (B : Nat) (c : Call0) (g : List Call0) : Prop where
  arr : Arr Call0.enc 5 w B c.gA g
  len : c.gn = g.length
  cap : g.length ≤ c.gc
  max : c.gc ≤ 9223372036854775807
theorem CallIn.below {w w' : World} {B : Nat} {c : Call0} {g : List Call0} (h : CallIn w B c g) (hb : Below B w w') : CallIn w' B c g := ⟨h.arr.below hb, h.len, h.cap, h.max⟩
theorem CallIn.more {w : World} {B B' : Nat} {c : Call0} {g : List Call0} (h : CallIn w B c g) (hB : B ≤ B') : CallIn w B' c g := ⟨h.arr.more hB, h.len, h.cap, h.max⟩

set_option maxHeartbeats 1000000 in
theorem shape_any (c : Call0) (g : List Call0) (w : World) (h : CallIn w w.heap.size c g) :
    Calls Tryz.prog 59 #[.agg #[.int .i64 c.kind, .string c.key, .string c.val, .string c.to, .slice c.gA c.gn c.gc]] w fun e w' => e = .returned (.bool (shapeB c g)) ∧ Below w.heap.size w w' := by
  obtain ⟨hA, hn, hc, hm⟩ := h
  obtain ⟨k, key, val, to, gA, gn, gc⟩ := c
  simp only at hA hn hc hm ⊢
  subst hn
  by_cases h1 : k < 1
  · have e : shapeB ⟨k, key, val, to, gA, g.length, gc⟩ g = false := by simp [shapeB, h1]
    rw [e]
    clear hA hc hm e
    go_enter Tryz.func59, Tryz.ntmps59
    go_wp2_with (go_at_call 75; refine (keyed_any _ _).mono ?_; rintro e w' ⟨rfl, rfl⟩)
    go_ret
    exact ⟨rfl, (by repeat (first | exact Below.refl _ _ | assumption | refine Below.drew ?_ | refine below_drewN ?_ _ | refine Below.alloc ?_ (by first | omega | (simp; done) | (simp; omega)) _ | refine Below.setCell ?_ (by first | omega | (simp; done) | (simp; omega)) _))⟩
  by_cases h8 : 8 < k
  · have e : shapeB ⟨k, key, val, to, gA, g.length, gc⟩ g = false := by simp [shapeB, h8]
    rw [e]
    clear hA hc hm e
    go_enter Tryz.func59, Tryz.ntmps59
    go_wp2_with (go_at_call 75; refine (keyed_any _ _).mono ?_; rintro e w' ⟨rfl, rfl⟩)
    go_ret
    exact ⟨rfl, (by repeat (first | exact Below.refl _ _ | assumption | refine Below.drew ?_ | refine below_drewN ?_ _ | refine Below.alloc ?_ (by first | omega | (simp; done) | (simp; omega)) _ | refine Below.setCell ?_ (by first | omega | (simp; done) | (simp; omega)) _))⟩
  by_cases h7 : k = 7
  · subst h7
    by_cases hg1 : g.length < 1
    · have e : shapeB ⟨7, key, val, to, gA, g.length, gc⟩ g = false := by simp [shapeB, hg1]
      rw [e]
      clear e
      have hk7 : keyedB 7 = false := by decide +kernel
      have hg1' : (g.length : Int) < 1 := by omega
      go_enter Tryz.func59, Tryz.ntmps59
      go_wp2_with (go_at_call 75; refine (keyed_any _ _).mono ?_; rintro e w' ⟨rfl, rfl⟩; rw [hk7])
      go_ret
      exact ⟨rfl, (by repeat (first | exact Below.refl _ _ | assumption | refine Below.drew ?_ | refine below_drewN ?_ _ | refine Below.alloc ?_ (by first | omega | (simp; done) | (simp; omega)) _ | refine Below.setCell ?_ (by first | omega | (simp; done) | (simp; omega)) _))⟩
    by_cases hg3 : 3 < g.length
    · have e : shapeB ⟨7, key, val, to, gA, g.length, gc⟩ g = false := by simp [shapeB, hg3]
      rw [e]
      clear e
      have hk7 : keyedB 7 = false := by decide +kernel
      have hg3' : (3 : Int) < (g.length : Int) := by omega
      go_enter Tryz.func59, Tryz.ntmps59
      go_wp2_with (go_at_call 75; refine (keyed_any _ _).mono ?_; rintro e w' ⟨rfl, rfl⟩; rw [hk7])
      go_ret
      exact ⟨rfl, (by repeat (first | exact Below.refl _ _ | assumption | refine Below.drew ?_ | refine below_drewN ?_ _ | refine Below.alloc ?_ (by first | omega | (simp; done) | (simp; omega)) _ | refine Below.setCell ?_ (by first | omega | (simp; done) | (simp; omega)) _))⟩
    have hk7 : keyedB 7 = false := by decide +kernel
    have e : shapeB ⟨7, key, val, to, gA, g.length, gc⟩ g = groupOk g := by simp [shapeB, hg1, hg3, hk7]
    rw [e]
    exact shape_group g gA gc key val to w hA hc hm (by omega) (by omega)
  cases hky : keyedB k with
  | false =>
    have e : shapeB ⟨k, key, val, to, gA, g.length, gc⟩ g = true := by simp [shapeB, h1, h8, h7, hky]
    rw [e]
    clear e hA
    have h7' : (k == 7) = false := by simpa using h7
    have h7'' : (k != 7) = true := by simpa using h7
    go_enter Tryz.func59, Tryz.ntmps59
    go_wp2_with (go_at_call 75; refine (keyed_any _ _).mono ?_; rintro e w' ⟨rfl, rfl⟩; rw [hky])
    go_ret
    exact ⟨rfl, (by repeat (first | exact Below.refl _ _ | assumption | refine Below.drew ?_ | refine below_drewN ?_ _ | refine Below.alloc ?_ (by first | omega | (simp; done) | (simp; omega)) _ | refine Below.setCell ?_ (by first | omega | (simp; done) | (simp; omega)) _))⟩
  | true =>
    cases hke : key.toList.isEmpty with
    | true =>
      have e : shapeB ⟨k, key, val, to, gA, g.length, gc⟩ g = false := by simp [shapeB, h1, h8, hky, hke]
      rw [e]
      clear e hA
      go_enter Tryz.func59, Tryz.ntmps59
      go_wp2_with (go_at_call 75; refine (keyed_any _ _).mono ?_; rintro e w' ⟨rfl, rfl⟩; rw [hky])
      go_ret
      exact ⟨rfl, (by repeat (first | exact Below.refl _ _ | assumption | refine Below.drew ?_ | refine below_drewN ?_ _ | refine Below.alloc ?_ (by first | omega | (simp; done) | (simp; omega)) _ | refine Below.setCell ?_ (by first | omega | (simp; done) | (simp; omega)) _))⟩
    | false =>
      have e : shapeB ⟨k, key, val, to, gA, g.length, gc⟩ g = true := by simp [shapeB, h1, h8, h7, hke]
      rw [e]
      clear e hA
      have h7'' : (k != 7) = true := by simpa using h7
      go_enter Tryz.func59, Tryz.ntmps59
      go_wp2_with (go_at_call 75; refine (keyed_any _ _).mono ?_; rintro e w' ⟨rfl, rfl⟩; rw [hky])
      go_ret
      exact ⟨rfl, (by repeat (first | exact Below.refl _ _ | assumption | refine Below.drew ?_ | refine below_drewN ?_ _ | refine Below.alloc ?_ (by first | omega | (simp; done) | (simp; omega)) _ | refine Below.setCell ?_ (by first | omega | (simp; done) | (simp; omega)) _))⟩
theorem grouped_not7 {k : Int} (h : groupedB k = true) : k ≠ 7 := by
  intro e
  subst e
  revert h
  decide +kernel
theorem shape_flat {c : Call0} {g : List Call0} (h : shapeB c g = true) (h7 : c.kind = 7) : ∀ x ∈ g, groupedB x.kind = true := by
  intro x hx
  have hok : groupOk g = true := by
    unfold shapeB at h
    split at h
    · cases h
    · split at h
      · cases h
      · rw [if_neg (by simp [h7])] at h
        split at h
        · cases h
        · exact h
  obtain ⟨i, hi, rfl⟩ := List.mem_iff_getElem.1 hx
  cases hg : groupedB g[i].kind with
  | true => rfl
  | false =>
    rw [groupOk_bad hi (by simp [elemBad, hg])] at hok
    cases hok
/-- 0, or what is wrong with a call -/
def goodI (c : Call0) (g : List Call0) : Int := if shapeB c g = false then 1 else if longB c g = true then 5 else 0
set_option maxHeartbeats 1000000 in
theorem good_any (c : Call0) (g : List Call0) (w : World) (h : CallIn w w.heap.size c g) :
    Calls Tryz.prog 49 #[.agg #[.int .i64 c.kind, .string c.key, .string c.val, .string c.to, .slice c.gA c.gn c.gc]] w fun e w' => e = .returned (.int .i64 (goodI c g)) ∧ Below w.heap.size w w' := by
  have h1 : CallIn (w.alloc (.cells #[.int .i64 c.kind, .string c.key, .string c.val, .string c.to, .slice c.gA c.gn c.gc] 46)) (w.heap.size + 1) c g := (h.below ((Below.refl _ w).alloc (Nat.le_refl _) _)).more (by omega)
  cases hs : shapeB c g with
  | false =>
    have e : goodI c g = 1 := by simp [goodI, hs]
    rw [e]
    have H1 := hid h1
    clear h1 h e
    go_enter Tryz.func49, Tryz.ntmps49
    go_wp2_with (go_at_call 59; refine (shape_any c g _ (H1.out.more (by simp))).mono ?_; rintro e w' ⟨rfl, hb⟩; rw [hs])
    go_ret
    exact ⟨rfl, ((Below.refl _ w).alloc (Nat.le_refl _) _).trans (hb.mono (by simp))⟩
  | true =>
    have hf : c.kind = 7 → ∀ x ∈ g, x.kind ≠ 7 := fun h7 x hx => grouped_not7 (shape_flat hs h7 x hx)
    have HF := hid hf
    have H1 := hid h1
    clear h1 h hf
    have e : goodI c g = if longB c g = true then 5 else 0 := by simp [goodI, hs]
    rw [e]
    clear e
    cases hl : longB c g with
    | true =>
      go_enter Tryz.func49, Tryz.ntmps49
      go_wp2_with (go_at_call 59; refine (shape_any c g _ (H1.out.more (by simp))).mono ?_; rintro e w' ⟨rfl, hb⟩; rw [hs]; have c0 := hb.cell (p := ⟨w.heap.size, 0, none⟩) (by simp); have c1 := hb.cell (p := ⟨w.heap.size, 1, none⟩) (by simp); have c2 := hb.cell (p := ⟨w.heap.size, 2, none⟩) (by simp); have c3 := hb.cell (p := ⟨w.heap.size, 3, none⟩) (by simp); have c4 := hb.cell (p := ⟨w.heap.size, 4, none⟩) (by simp))
      have hb' := hb.mono (show w.heap.size + 1 ≤ _ by simp)
      have hz := new_size hb'
      have H2 := (H1.out.below hb').more (show w.heap.size + 1 ≤ _ by exact hz)
      refine (long_any c g _ H2.arr H2.len H2.cap H2.max HF.out).mono ?_
      rintro e w2 ⟨rfl, hb2⟩
      rw [hl]
      clear H2
      go_wp2
      go_ret
      exact ⟨rfl, (((Below.refl _ w).alloc (Nat.le_refl _) _).trans (hb'.mono (by omega))).trans (hb2.mono (by omega))⟩
    | false =>
      go_enter Tryz.func49, Tryz.ntmps49
      go_wp2_with (go_at_call 59; refine (shape_any c g _ (H1.out.more (by simp))).mono ?_; rintro e w' ⟨rfl, hb⟩; rw [hs]; have c0 := hb.cell (p := ⟨w.heap.size, 0, none⟩) (by simp); have c1 := hb.cell (p := ⟨w.heap.size, 1, none⟩) (by simp); have c2 := hb.cell (p := ⟨w.heap.size, 2, none⟩) (by simp); have c3 := hb.cell (p := ⟨w.heap.size, 3, none⟩) (by simp); have c4 := hb.cell (p := ⟨w.heap.size, 4, none⟩) (by simp))
      have hb' := hb.mono (show w.heap.size + 1 ≤ _ by simp)
      have hz := new_size hb'
      have H2 := (H1.out.below hb').more (show w.heap.size + 1 ≤ _ by exact hz)
      refine (long_any c g _ H2.arr H2.len H2.cap H2.max HF.out).mono ?_
      rintro e w2 ⟨rfl, hb2⟩
      rw [hl]
      clear H2
      go_wp2
      go_ret
      exact ⟨rfl, (((Below.refl _ w).alloc (Nat.le_refl _) _).trans (hb'.mono (by omega))).trans (hb2.mono (by omega))⟩
end Go.Proofs.YtamcehfcjcmpmaaGreatDoor
