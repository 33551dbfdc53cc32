/- What the program's package audit does with numbers and blocks: class.Span, meet, Overlap, Try, Measure; the statements' own awake and Low. -/
import Derived.Test.YtamcehfcjcmpmaaRows
import Derived.Test.YtamcehfcjcmpmaaBase
import Derived.Deep.QuietTactic
import Derived.BigQuiet
namespace Go.Proofs.Ytamcehfcjcmpmaa
open Go.RowKit

/-! ### numbers -/
theorem within_a (n : Int) (w : World) :
    Calls Try.prog 11 #[.int .i64 n] w fun e w' => e = .returned (.int .i64 (min (max n 0) 1048576)) ∧ w = w' := by
  go_enter Try.func11, Try.ntmps11
  go_wp2
  all_goals (go_ret; exact ⟨ret_int (by omega), rfl⟩)
theorem try_a (n : Int) (w : World) :
    Calls Try.prog 8 #[.int .i64 n] w fun e w' => e = .returned (.int .i64 (12 * (min (max n 0) 258 + 16) + 40)) ∧ w = w' := by
  go_enter Try.func8, Try.ntmps8
  go_wp2
  all_goals (go_ret; exact ⟨ret_int (by omega), rfl⟩)
/-- a number held within bounds -/
def wi (n : Int) : Int := min (max n 0) 1048576
theorem wi_lo (n : Int) : 0 ≤ wi n := by unfold wi; omega
theorem wi_hi (n : Int) : wi n ≤ 1048576 := by unfold wi; omega
/-- how many steps a call needs at most -/
def tr (n : Int) : Int := 12 * (min (max n 0) 258 + 16) + 40
theorem tr_lo (n : Int) : 232 ≤ tr n := by unfold tr; omega
theorem tr_hi (n : Int) : tr n ≤ 3328 := by unfold tr; omega
/-- what Measure comes to -/
def meas (rest lines links pending : Int) : Int :=
  (2 * wi pending + 2) * 2 * (wi rest + 2 * wi lines + 64 + tr (wi links)) + 8 * (wi rest + 2 * wi lines + 64)
theorem mul_hi {a b c d : Int} (h0 : 0 ≤ a) (h1 : a ≤ b) (h2 : 0 ≤ c) (h3 : c ≤ d) : 0 ≤ a * c ∧ a * c ≤ b * d :=
  ⟨Int.mul_nonneg h0 h2, Int.mul_le_mul h1 h3 h2 (by omega)⟩
theorem meas_bd (rest lines links pending : Int) :
    0 ≤ (2 * wi pending + 2) * 2 * (wi rest + 2 * wi lines + 64 + tr (wi links)) ∧ (2 * wi pending + 2) * 2 * (wi rest + 2 * wi lines + 64 + tr (wi links)) ≤ 4194308 * 3149120 := by
  have := wi_lo pending; have := wi_hi pending; have := wi_lo rest; have := wi_hi rest; have := wi_lo lines; have := wi_hi lines; have := tr_lo (wi links); have := tr_hi (wi links)
  exact mul_hi (by omega) (by omega) (by omega) (by omega)
theorem meas_wrap (rest lines links pending : Int) :
    wrap64 (wrap64 ((2 * wi pending + 2) * 2 * (wi rest + 2 * wi lines + 64 + tr (wi links))) + 8 * (wi rest + 2 * wi lines + 64)) = meas rest lines links pending := by
  have h := meas_bd rest lines links pending
  have := wi_lo rest; have := wi_hi rest; have := wi_lo lines; have := wi_hi lines
  unfold meas
  generalize (2 * wi pending + 2) * 2 * (wi rest + 2 * wi lines + 64 + tr (wi links)) = x at *
  rw [Go.IntWalk.wrap64_in x (by omega), Go.IntWalk.wrap64_in _ (by omega)]
theorem within_a' (n : Int) (w : World) : Calls Try.prog 11 #[.int .i64 n] w fun e w' => e = .returned (.int .i64 (wi n)) ∧ w = w' := within_a n w
theorem try_a' (n : Int) (w : World) : Calls Try.prog 8 #[.int .i64 n] w fun e w' => e = .returned (.int .i64 (tr n)) ∧ w = w' := try_a n w
theorem meas_a (rest lines links pending : Int) (w : World) :
    Calls Try.prog 9 #[.int .i64 rest, .int .i64 lines, .int .i64 links, .int .i64 pending] w fun e w' => e = .returned (.int .i64 (meas rest lines links pending)) ∧ w = w' := by
  have := wi_lo rest; have := wi_hi rest; have := wi_lo lines; have := wi_hi lines; have := wi_lo pending; have := wi_hi pending; have := tr_lo (wi links); have := tr_hi (wi links)
  rw [← meas_wrap]
  go_enter Try.func9, Try.ntmps9
  go_wp2_with (first | (go_at_call 11; refine (within_a' _ _).mono ?_; rintro e w' ⟨rfl, rfl⟩) | (go_at_call 8; refine (try_a' _ _).mono ?_; rintro e w' ⟨rfl, rfl⟩))
  go_ret
  exact ⟨rfl, rfl⟩
/-- a number, from 0 to below n -/
def low (x n : Int) : Int := IntKind.u64.wrap x % n
theorem low_lo (x n : Int) (hn : 1 ≤ n) : 0 ≤ low x n := Int.emod_nonneg _ (by omega)
theorem low_hi (x n : Int) (hn : 1 ≤ n) : low x n < n := Int.emod_lt_of_pos _ (by omega)
theorem low_eq (x n : Int) (hn : 1 ≤ n) (hm : n ≤ 9223372036854775807) : wrap64 ((IntKind.u64.wrap x).tmod n) = low x n := by
  have h0 : 0 ≤ IntKind.u64.wrap x := by rw [IntKind.wrap_u64]; omega
  have h1 := low_lo x n hn
  have h2 := low_hi x n hn
  rw [Int.tmod_eq_emod_of_nonneg h0]
  exact Go.IntWalk.wrap64_in _ ⟨by unfold low at *; omega, by unfold low at *; omega⟩
theorem low_any (x n : Int) (hn : 1 ≤ n) (hm : n ≤ 9223372036854775807) (w : World) :
    Calls Try.prog 5 #[.int .i64 x, .int .i64 n] w fun e w' => e = .returned (.int .i64 (low x n)) ∧ w = w' := by
  go_enter Try.func5, Try.ntmps5
  go_wp2
  go_ret
  exact ⟨ret_int (low_eq x n hn hm), rfl⟩

/-! ### blocks -/
/-- how many lines a block has -/
def span (c : Int) : Int := if c < 0 ∨ 3 < c then 0 else if c = 0 then 1 else if c = 1 then 2 else if c = 2 then 4 else 8
theorem span_lo (c : Int) : 0 ≤ span c := by unfold span; repeat' split <;> omega
theorem span_hi (c : Int) : span c ≤ 8 := by unfold span; repeat' split <;> omega
theorem span_any (n : Int) (w : World) :
    Calls Try.prog 12 #[.int .i64 n] w fun e w' => e = .returned (.int .i64 (span n)) ∧ w = w' := by
  by_cases h1 : n < 0
  · go_enter Try.func12, Try.ntmps12
    go_wp2
    go_ret
    exact ⟨ret_int (by unfold span; split <;> omega), rfl⟩
  · by_cases h2 : 3 < n
    · go_enter Try.func12, Try.ntmps12
      go_wp2
      go_ret
      exact ⟨ret_int (by unfold span; split <;> omega), rfl⟩
    · rcases (by omega : n = 0 ∨ n = 1 ∨ n = 2 ∨ n = 3) with rfl | rfl | rfl | rfl
      all_goals
        go_enter Try.func12, Try.ntmps12
        go_wp2
        go_ret
        exact ⟨rfl, rfl⟩
theorem span_quiet (n : Int) (w : World) (a : Nat) : Calls Try.prog 12 #[.int .i64 n] (w.drewN a) fun e w' => e = .returned (.int .i64 (span n)) ∧ ∃ m, w' = w.drewN m :=
  (span_any n _).mono fun _ _ ⟨he, hw⟩ => ⟨he, a, hw.symm⟩

structure Taken where
  line : Int
  cls : Int
  deriving DecidableEq, Inhabited
def Taken.enc (t : Taken) : List Value := [.int .i64 t.line, .int .i64 t.cls]
/-- have two blocks a line in common? (as the program reckons) -/
def meetB (x y : Taken) : Bool :=
  if span x.cls = 0 ∨ span y.cls = 0 then false else if x.line > y.line then decide (IntKind.u64.wrap (IntKind.u64.wrap x.line - IntKind.u64.wrap y.line) < span y.cls) else decide (IntKind.u64.wrap (IntKind.u64.wrap y.line - IntKind.u64.wrap x.line) < span x.cls)

set_option maxHeartbeats 1000000 in
theorem meet_any (x y : Taken) (w : World) :
    Calls Try.prog 10 #[.agg #[.int .i64 x.line, .int .i64 x.cls], .agg #[.int .i64 y.line, .int .i64 y.cls]] w fun e w' => e = .returned (.bool (meetB x y)) ∧ Below w.heap.size w w' := by
  have a1 := span_lo x.cls
  have a2 := span_hi x.cls
  have a3 := span_lo y.cls
  have a4 := span_hi y.cls
  obtain ⟨l1, c1⟩ := x
  obtain ⟨l2, c2⟩ := y
  by_cases h1 : span c1 = 0
  · have e : meetB ⟨l1, c1⟩ ⟨l2, c2⟩ = false := by simp [meetB, h1]
    rw [e]
    have h1 : (span c1 == 0) = true := by simp [h1]
    go_enter Try.func10, Try.ntmps10
    go_wp2
    go_quiet ((go_at_call 12; exact span_quiet _ _ _))
    go_wp2
    go_ret
    exact ⟨rfl, (by repeat (first | exact Below.refl _ _ | assumption | refine Below.drew ?_ | refine below_drewN ?_ _ | refine Below.alloc ?_ (by first | omega | (simp; done) | (simp; omega)) _ | refine Below.setCell ?_ (by first | omega | (simp; done) | (simp; omega)) _))⟩
  · have n1 := h1
    have h1 : (span c1 == 0) = false := by simp [h1]
    by_cases h2 : span c2 = 0
    · have e : meetB ⟨l1, c1⟩ ⟨l2, c2⟩ = false := by simp [meetB, h2]
      rw [e]
      have h2 : (span c2 == 0) = true := by simp [h2]
      go_enter Try.func10, Try.ntmps10
      go_wp2
      go_quiet ((go_at_call 12; exact span_quiet _ _ _))
      go_wp2
      go_ret
      exact ⟨rfl, (by repeat (first | exact Below.refl _ _ | assumption | refine Below.drew ?_ | refine below_drewN ?_ _ | refine Below.alloc ?_ (by first | omega | (simp; done) | (simp; omega)) _ | refine Below.setCell ?_ (by first | omega | (simp; done) | (simp; omega)) _))⟩
    · have n2 := h2
      have h2 : (span c2 == 0) = false := by simp [h2]
      by_cases h3 : l1 > l2
      · have e : meetB ⟨l1, c1⟩ ⟨l2, c2⟩ = decide (IntKind.u64.wrap (IntKind.u64.wrap l1 - IntKind.u64.wrap l2) < span c2) := by simp [meetB, n1, n2, h3]
        rw [e]
        clear n1 n2 e
        go_enter Try.func10, Try.ntmps10
        go_wp2
        go_quiet ((go_at_call 12; exact span_quiet _ _ _))
        go_wp2
        go_ret
        exact ⟨rfl, (by repeat (first | exact Below.refl _ _ | assumption | refine Below.drew ?_ | refine below_drewN ?_ _ | refine Below.alloc ?_ (by first | omega | (simp; done) | (simp; omega)) _ | refine Below.setCell ?_ (by first | omega | (simp; done) | (simp; omega)) _))⟩
      · have e : meetB ⟨l1, c1⟩ ⟨l2, c2⟩ = decide (IntKind.u64.wrap (IntKind.u64.wrap l2 - IntKind.u64.wrap l1) < span c1) := by simp [meetB, n1, n2, h3]
        rw [e]
        clear n1 n2 e
        go_enter Try.func10, Try.ntmps10
        go_wp2
        go_quiet ((go_at_call 12; exact span_quiet _ _ _))
        go_wp2
        go_ret
        exact ⟨rfl, (by repeat (first | exact Below.refl _ _ | assumption | refine Below.drew ?_ | refine below_drewN ?_ _ | refine Below.alloc ?_ (by first | omega | (simp; done) | (simp; omega)) _ | refine Below.setCell ?_ (by first | omega | (simp; done) | (simp; omega)) _))⟩

theorem Arr.taken {w : World} {B : Nat} {A : Option Addr} {l : List Taken} (h : Arr Taken.enc 2 w B A l) {i : Nat} (hi : i < l.length) :
    ∃ b off, A = some ⟨b, off, none⟩ ∧ b < B ∧ w.cell? ⟨b, off + i * 2, none⟩ = some (.int .i64 l[i].line) ∧ w.cell? ⟨b, off + i * 2 + 1, none⟩ = some (.int .i64 l[i].cls) := by
  rcases h with h | ⟨b, off, hA, hB, hc⟩
  · subst h; simp at hi
  · exact ⟨b, off, hA, hB, hc i hi 0 _ rfl, hc i hi 1 _ rfl⟩
/-- do two of a list meet? -/
def overlapB (l : List Taken) : Bool := (List.range l.length).any fun i => (List.range i).any fun j => meetB (l.getD i default) (l.getD j default)
theorem overlap_yes {l : List Taken} {i j : Nat} (hi : i < l.length) (hj : j < i) (h : meetB l[i] (l[j]'(by omega)) = true) : overlapB l = true := by
  simp only [overlapB, List.any_eq_true, List.mem_range]
  exact ⟨i, hi, j, hj, by rw [getD_in hi, getD_in (show j < l.length by omega)]; exact h⟩
/-- none of the first k meets one ahead of it -/
def apartTo (l : List Taken) (k : Nat) : Prop := ∀ i j, (hi : i < l.length) → (hj : j < i) → i < k → meetB l[i] (l[j]'(by omega)) = false
/-- nor the k-th one of the first m -/
def apartAt (l : List Taken) (k m : Nat) : Prop := ∀ j, (hk : k < l.length) → (hj : j < k) → j < m → meetB l[k] (l[j]'(by omega)) = false
theorem overlap_no {l : List Taken} {k : Nat} (hk : l.length ≤ k) (h : apartTo l k) : overlapB l = false := by
  rw [Bool.eq_false_iff]
  intro hc
  simp only [overlapB, List.any_eq_true, List.mem_range] at hc
  obtain ⟨i, hi, j, hj, hm⟩ := hc
  rw [getD_in hi, getD_in (show j < l.length by omega)] at hm
  rw [h i j hi hj (by omega)] at hm
  cases hm
theorem apartTo_zero (l : List Taken) : apartTo l 0 := fun _ _ _ _ h => absurd h (by omega)
theorem apartAt_zero (l : List Taken) (k : Nat) : apartAt l k 0 := fun _ _ _ h => absurd h (by omega)
theorem apartAt_succ {l : List Taken} {k m : Nat} (hk : k < l.length) (hm : m < k) (h : apartAt l k m) (h1 : meetB l[k] (l[m]'(by omega)) = false) : apartAt l k (m + 1) := by
  intro j _ hj hlt
  rcases (by omega : j < m ∨ j = m) with hj' | rfl
  · exact h j hk hj hj'
  · exact h1
theorem apartTo_succ {l : List Taken} {k : Nat} (h : apartTo l k) (h1 : apartAt l k k) : apartTo l (k + 1) := by
  intro i j hi hj hlt
  rcases (by omega : i < k ∨ i = k) with hi' | rfl
  · exact h i j hi hj hi'
  · exact h1 j hi hj hj

set_option maxHeartbeats 1000000 in
theorem overlap_any (l : List Taken) (A : Option Addr) (c : Nat) (w : World) (hA : Arr Taken.enc 2 w w.heap.size A l) (hc : l.length ≤ c) (hm : c ≤ 9223372036854775807) :
    Calls Try.prog 7 #[.slice A l.length c] w fun e w' => e = .returned (.bool (overlapB l)) ∧ Below w.heap.size w w' := by
  go_enter Try.func7, Try.ntmps7
  go_wp2
  go_loopw [9] (fun i wr => ∃ k : Nat, k ≤ l.length ∧ i = .int .i64 k ∧ Below w.heap.size w wr ∧ apartTo l k)
                 (fun i _ => l.length - (intOf i).toNat)
  case atStart => exact ⟨0, Nat.zero_le _, rfl, Below.refl _ _, apartTo_zero _⟩
  case round =>
    obtain ⟨k, hk, rfl, hb, hap⟩ := hrel
    have hbs := hb.size
    by_cases hlt : k < l.length
    · obtain ⟨b, off, rfl, hB, c0, c1⟩ := (hA.below hb).taken hlt
      obtain ⟨wo, rfl⟩ : ∃ wo : World, wo = wr := ⟨_, rfl⟩
      go_wp2
      go_loopw [18] (fun i wr => ∃ m : Nat, m ≤ k ∧ i = .int .i64 m ∧ Below (wo.heap.size + 1) (wo.alloc (.cells #[.int .i64 l[k].line, .int .i64 l[k].cls] 29)) wr ∧ apartAt l k m)
                 (fun i _ => k - (intOf i).toNat)
      case atStart => exact ⟨0, Nat.zero_le _, rfl, Below.refl _ _, apartAt_zero _ _⟩
      case round =>
        obtain ⟨m, hmk, rfl, hb2, hap2⟩ := hrel
        have hb3 : Below w.heap.size w wr := ((hb.alloc hbs _).trans (hb2.mono (by omega)))
        by_cases hlt2 : m < k
        · obtain ⟨b', off', hbo, hB', d0, d1⟩ := (hA.below hb3).taken (show m < l.length by omega)
          have e0 : wr.cell? ⟨wo.heap.size, 0, none⟩ = some (.int .i64 l[k].line) := new_cell hb2 0
          have e1 : wr.cell? ⟨wo.heap.size, 1, none⟩ = some (.int .i64 l[k].cls) := new_cell hb2 1
          have hz := new_size hb2
          obtain ⟨rfl, rfl⟩ : b = b' ∧ off = off' := by simpa using hbo
          clear hbo
          cases hmeet : meetB l[k] l[m] with
          | true =>
            go_wp2_with (go_at_call 10; refine (meet_any l[k] l[m] _).mono ?_; rintro e w' ⟨rfl, hb4⟩; rw [hmeet])
            go_ret
            exact ⟨ret_bool (overlap_yes hlt hlt2 hmeet).symm, (hb3.alloc (by omega) _).trans (hb4.mono (by simp; omega))⟩
          | false =>
            go_wp2_with (go_at_call 10; refine (meet_any l[k] l[m] _).mono ?_; rintro e w' ⟨rfl, hb4⟩; rw [hmeet])
            go_roundw
            case rel => exact ⟨m + 1, by omega, by go_num, (hb2.alloc (by omega) _).trans (hb4.mono (by simp; omega)), apartAt_succ hlt hlt2 hap2 hmeet⟩
            case measure => simp [intOf]; omega
        · go_wp2
          obtain rfl : m = k := by omega
          go_roundw
          case rel => exact ⟨m + 1, by omega, by go_num, hb3, apartTo_succ hap hap2⟩
          case measure => simp [intOf]; omega
    · go_wp2
      go_ret
      exact ⟨ret_bool (overlap_no (by omega) hap).symm, hb⟩
theorem Taken.enc_len (x : Taken) : x.enc.length = 2 := rfl
set_option maxHeartbeats 1000000 in
theorem awake26 (w : World) : Calls Try.prog 4 #[] w fun e w' => e = .returned (.bool true) ∧ Below w.heap.size w w' := by
  have o1 : overlapB [⟨2, 1⟩, ⟨3, 0⟩] = true := by decide +kernel
  have o2 : overlapB [⟨2, 0⟩, ⟨3, 0⟩] = false := by decide +kernel
  have o3 : meas 0 10 0 0 = 1936 := by decide +kernel
  have o4 : tr 0 = 232 := by decide +kernel
  go_enter Try.func4, Try.ntmps4
  go_wp2_with fail
  refine (overlap_any [⟨2, 1⟩, ⟨3, 0⟩] _ 2 _ ((Arr.lit Taken.enc_len w _ _ _ rfl).more (by simp)) (by simp) (by simp)).mono ?_
  rintro e w1 ⟨rfl, hb1⟩
  have hz1 := new_size hb1
  rw [o1]
  go_wp2_with fail
  refine (overlap_any [⟨2, 0⟩, ⟨3, 0⟩] _ 2 _ ((Arr.lit Taken.enc_len w1 _ _ _ rfl).more (by simp)) (by simp) (by simp)).mono ?_
  rintro e w2 ⟨rfl, hb2⟩
  rw [o2]
  go_wp2_with fail
  refine (try_a' 0 _).mono ?_
  rintro e w3 ⟨rfl, rfl⟩
  rw [o4]
  go_wp2_with fail
  refine (meas_a 0 10 0 0 _).mono ?_
  rintro e w3 ⟨rfl, rfl⟩
  rw [o3]
  go_wp2_with fail
  go_ret
  have r1 : Below w.heap.size w w1 := ((Below.refl _ w).alloc (Nat.le_refl _) _).trans (hb1.mono (by simp))
  have r2 : Below w1.heap.size w1 w2 := ((Below.refl _ w1).alloc (Nat.le_refl _) _).trans (hb2.mono (by simp))
  exact ⟨rfl, r1.trans (r2.mono (by omega))⟩

end Go.Proofs.Ytamcehfcjcmpmaa
