/- Stories: what they are in memory; story.May, story.Before, which kinds serial goes through. -/
import Derived.Test.YtamcehfcjcmpmaaDoorIdl2
import Derived.Test.YtamcehfcjcmpmaaDoorIdl9
namespace Go.Proofs.YtamcehfcjcmpmaaDoor
open Go.RowKit

/-- a story, as its fourteen cells say it; slices as they stand -/
structure Story where
  th : Int
  c : Call0
  code : Int
  fd : Bool
  vl : ByteArray
  pA : Option Addr
  pn : Nat
  pc : Nat
  hA : Option Addr
  hn : Nat
  hc : Nat
  ep : Int
  bg : Int
  en : Int
  deriving Inhabited
def Story.enc (s : Story) : List Value := [.int .i64 s.th, .int .i64 s.c.kind, .string s.c.key, .string s.c.val, .string s.c.to, .slice s.c.gA s.c.gn s.c.gc, .int .i64 s.code, .bool s.fd, .string s.vl, .slice s.pA s.pn s.pc, .slice s.hA s.hn s.hc, .int .u64 s.ep, .int .i64 s.bg, .int .i64 s.en]
theorem Story.enc_len (s : Story) : s.enc.length = 14 := rfl
theorem Story.enc_one (s : Story) : ∀ u ∈ s.enc, u.oneCell' = true := by
  intro u hu
  simp [Story.enc] at hu
  rcases hu with rfl | rfl | rfl | rfl | rfl | rfl | rfl | rfl | rfl | rfl | rfl | rfl | rfl | rfl <;> rfl
theorem info_story : (Tryd.prog.info? 44).map (fun i => (i.zero, i.size, i.bytes)) = some (some (.agg #[.int .i64 0, .int .i64 0, .string ByteArray.empty, .string ByteArray.empty, .string ByteArray.empty, .slice none 0 0, .int .i64 0, .bool false, .string ByteArray.empty, .slice none 0 0, .slice none 0 0, .int .u64 0, .int .i64 0, .int .i64 0]), 14, 192) := by kernel_rfl
/-- the cells of a story that lies in memory -/
structure StCells (w : World) (b o : Nat) (s : Story) : Prop where
  c0 : w.cell? ⟨b, o, none⟩ = some (.int .i64 s.th)
  c1 : w.cell? ⟨b, o + 1, none⟩ = some (.int .i64 s.c.kind)
  c2 : w.cell? ⟨b, o + 2, none⟩ = some (.string s.c.key)
  c3 : w.cell? ⟨b, o + 3, none⟩ = some (.string s.c.val)
  c4 : w.cell? ⟨b, o + 4, none⟩ = some (.string s.c.to)
  c5 : w.cell? ⟨b, o + 5, none⟩ = some (.slice s.c.gA s.c.gn s.c.gc)
  c6 : w.cell? ⟨b, o + 6, none⟩ = some (.int .i64 s.code)
  c7 : w.cell? ⟨b, o + 7, none⟩ = some (.bool s.fd)
  c8 : w.cell? ⟨b, o + 8, none⟩ = some (.string s.vl)
  c9 : w.cell? ⟨b, o + 9, none⟩ = some (.slice s.pA s.pn s.pc)
  c10 : w.cell? ⟨b, o + 10, none⟩ = some (.slice s.hA s.hn s.hc)
  c11 : w.cell? ⟨b, o + 11, none⟩ = some (.int .u64 s.ep)
  c12 : w.cell? ⟨b, o + 12, none⟩ = some (.int .i64 s.bg)
  c13 : w.cell? ⟨b, o + 13, none⟩ = some (.int .i64 s.en)
theorem Arr.story {w : World} {B : Nat} {A : Option Addr} {l : List Story} (h : Arr Story.enc 14 w B A l) {i : Nat} (hi : i < l.length) : ∃ b off, A = some ⟨b, off, none⟩ ∧ b < B ∧ StCells w b (off + i * 14) l[i] := by
  rcases h with h | ⟨b, off, hA, hB, hc⟩
  · subst h; simp at hi
  · exact ⟨b, off, hA, hB, hc i hi 0 _ rfl, hc i hi 1 _ rfl, hc i hi 2 _ rfl, hc i hi 3 _ rfl, hc i hi 4 _ rfl, hc i hi 5 _ rfl, hc i hi 6 _ rfl, hc i hi 7 _ rfl, hc i hi 8 _ rfl, hc i hi 9 _ rfl, hc i hi 10 _ rfl, hc i hi 11 _ rfl, hc i hi 12 _ rfl, hc i hi 13 _ rfl⟩
def storyV (s : Story) : Value := .agg #[.int .i64 s.th, .int .i64 s.c.kind, .string s.c.key, .string s.c.val, .string s.c.to, .slice s.c.gA s.c.gn s.c.gc, .int .i64 s.code, .bool s.fd, .string s.vl, .slice s.pA s.pn s.pc, .slice s.hA s.hn s.hc, .int .u64 s.ep, .int .i64 s.bg, .int .i64 s.en]
/-- has one ended ahead of another? -/
def befB (a b : Story) : Bool := decide (0 ≤ a.en) && decide (a.en < b.bg)
theorem before_any (a b : Story) (w : World) : Calls Tryd.prog 21 #[storyV a, storyV b] w fun e w' => e = .returned (.bool (befB a b)) ∧ Below w.heap.size w w' := by
  unfold storyV
  by_cases h1 : 0 ≤ a.en
  · by_cases h2 : a.en < b.bg
    · have e : befB a b = true := by simp [befB, h1, h2]
      rw [e]
      go_enter Tryd.func21, Tryd.ntmps21
      go_wp2
      go_ret
      exact ⟨rfl, (by repeat (first | exact Below.refl _ _ | assumption | refine Below.drew ?_ | refine below_drewN ?_ _ | refine Below.alloc ?_ (by first | omega | (simp; done) | (simp; omega)) _ | refine Below.setCell ?_ (by first | omega | (simp; done) | (simp; omega)) _))⟩
    · have e : befB a b = false := by simp [befB, h2]
      have h2' : b.bg ≤ a.en := by omega
      rw [e]
      go_enter Tryd.func21, Tryd.ntmps21
      go_wp2
      go_ret
      exact ⟨rfl, (by repeat (first | exact Below.refl _ _ | assumption | refine Below.drew ?_ | refine below_drewN ?_ _ | refine Below.alloc ?_ (by first | omega | (simp; done) | (simp; omega)) _ | refine Below.setCell ?_ (by first | omega | (simp; done) | (simp; omega)) _))⟩
  · have e : befB a b = false := by simp [befB, h1]
    have h1' : a.en < 0 := by omega
    rw [e]
    clear h1 e
    go_enter Tryd.func21, Tryd.ntmps21
    go_wp2
    go_ret
    exact ⟨rfl, (by repeat (first | exact Below.refl _ _ | assumption | refine Below.drew ?_ | refine below_drewN ?_ _ | refine Below.alloc ?_ (by first | omega | (simp; done) | (simp; omega)) _ | refine Below.setCell ?_ (by first | omega | (simp; done) | (simp; omega)) _))⟩
/-- is it a kind that serial goes through? -/
def kindB (k : Int) : Bool := k == 1 || k == 2 || k == 3 || k == 4 || k == 5 || k == 7
theorem points1_any (s : Story) (w : World) : Calls Tryd.prog 32 #[storyV s] w fun e w' => e = .returned (.bool (kindB s.c.kind)) ∧ Below w.heap.size w w' := by
  unfold storyV
  by_cases h : kindB s.c.kind = true
  · rw [h]
    simp only [kindB, Bool.or_eq_true, beq_iff_eq] at h
    rcases h with ((((h | h) | h) | h) | h) | h
    all_goals
      rw [h]
      go_enter Tryd.func32, Tryd.ntmps32
      go_wp2
      go_ret
      exact ⟨rfl, (by repeat (first | exact Below.refl _ _ | assumption | refine Below.drew ?_ | refine below_drewN ?_ _ | refine Below.alloc ?_ (by first | omega | (simp; done) | (simp; omega)) _ | refine Below.setCell ?_ (by first | omega | (simp; done) | (simp; omega)) _))⟩
  · have h' : kindB s.c.kind = false := by simpa using h
    rw [h']
    simp only [kindB, Bool.or_eq_false_iff] at h'
    obtain ⟨⟨⟨⟨⟨h1, h2⟩, h3⟩, h4⟩, h5⟩, h7⟩ := h'
    clear h
    go_enter Tryd.func32, Tryd.ntmps32
    go_wp2
    go_ret
    exact ⟨rfl, (by repeat (first | exact Below.refl _ _ | assumption | refine Below.drew ?_ | refine below_drewN ?_ _ | refine Below.alloc ?_ (by first | omega | (simp; done) | (simp; omega)) _ | refine Below.setCell ?_ (by first | omega | (simp; done) | (simp; omega)) _))⟩
/-- may the i-th story stand there? -/
def okSt (l : List Story) (i : Nat) (hi : i < l.length) : Prop := 0 ≤ l[i].bg ∧ (∀ j, (h : j + 1 = i) → (l[j]'(by omega)).bg < l[i].bg) ∧ (l[i].en = -1 ∨ l[i].bg < l[i].en)
def MayTo (l : List Story) (k : Nat) : Prop := ∀ i, (hi : i < l.length) → i < k → okSt l i hi
def MayS (l : List Story) : Prop := MayTo l l.length
theorem MayTo.succ {l : List Story} {k : Nat} (h : MayTo l k) (hk : k < l.length) (h1 : okSt l k hk) : MayTo l (k + 1) := fun i hi hik => by
  rcases (by omega : i < k ∨ i = k) with h' | rfl
  · exact h i hi h'
  · exact h1
theorem may_no {l : List Story} {k : Nat} (hk : k < l.length) (h : ¬ okSt l k hk) : ¬ MayS l := fun hm => h (hm k hk hk)
def GivesMay (l : List Story) (w : World) (e : Ending) (w' : World) : Prop := ∃ r, e = .returned (.bool r) ∧ (r = true ↔ MayS l) ∧ Below w.heap.size w w'
set_option maxHeartbeats 8000000 in
set_option maxRecDepth 100000 in
theorem maySt_any (l : List Story) (A : Option Addr) (c : Nat) (w : World) (hA : Arr Story.enc 14 w w.heap.size A l) (hc : l.length ≤ c) (hm : c ≤ 9223372036854775807) : Calls Tryd.prog 28 #[.slice A l.length c] w (GivesMay l w) := by
  have HA := hid hA
  clear hA
  go_enter Tryd.func28, Tryd.ntmps28
  go_wp2_with fail
  go_loopw [7] (fun v7 wr => ∃ k : Nat, k ≤ l.length ∧ v7 = .int .i64 k ∧ Below w.heap.size w wr ∧ Hid (MayTo l k)) (fun v7 _ => l.length - (intOf v7).toNat)
  case atStart => exact ⟨0, Nat.zero_le _, rfl, Below.refl _ _, hid fun _ _ h => absurd h (by omega)⟩
  case round =>
    obtain ⟨k, hkl, rfl, hbw, hmay⟩ := hrel
    have hsz := hbw.size
    by_cases hlt : k < l.length
    · obtain ⟨b, off, rfl, hB, hcells⟩ := (HA.out.below hbw).story hlt
      obtain ⟨c0, c1, c2, c3, c4, c5, c6, c7, c8, c9, c10, c11, c12, c13⟩ := hcells
      have hbr : b < wr.heap.size := by omega
      by_cases t1 : l[k].bg < 0
      · have HNO := hid (may_no hlt (fun h => by have := h.1; omega))
        go_wp2_with fail
        go_quiet (fail)
        go_wp2
        go_ret
        exact ⟨false, rfl, by simpa using HNO.out, below_drewN (hbw.alloc hsz _) _⟩
      · have t1' : 0 ≤ l[k].bg := by omega
        rcases Nat.eq_zero_or_pos k with hk0 | hk0
        · subst hk0
          have t1d : decide (l[0].bg < 0) = false := by simpa using t1'
          simp only [Nat.zero_mul, Nat.add_zero] at c0 c1 c2 c3 c4 c5 c6 c7 c8 c9 c10 c11 c12 c13
          by_cases t3 : l[0].en = -1
          · have HOK := hid (hmay.out.succ hlt ⟨by omega, fun j h => by omega, .inl t3⟩)
            have t3' : (l[0].en != -1) = false := by simp [t3]
            clear t3
            go_wp2_with fail
            go_quiet (fail)
            go_wp2
            exact ⟨⟨0 + 1, by omega, by go_num, below_drewN (hbw.alloc hsz _) _, HOK⟩, by simp [intOf]; omega⟩
          · have t3' : (l[0].en != -1) = true := by simpa using t3
            by_cases t4 : l[0].bg < l[0].en
            · have HOK := hid (hmay.out.succ hlt ⟨by omega, fun j h => by omega, .inr t4⟩)
              have t4' : decide (l[0].en ≤ l[0].bg) = false := by simp; omega
              clear t3
              go_wp2_with fail
              go_quiet (fail)
              go_wp2
              exact ⟨⟨0 + 1, by omega, by go_num, below_drewN (hbw.alloc hsz _) _, HOK⟩, by simp [intOf]; omega⟩
            · have HNO := hid (may_no hlt (fun h => by rcases h.2.2 with h | h; exact t3 h; omega))
              have t4' : decide (l[0].en ≤ l[0].bg) = true := by simp; omega
              clear t3 t4
              go_wp2_with fail
              go_quiet (fail)
              go_wp2
              go_ret
              exact ⟨false, rfl, by simpa using HNO.out, below_drewN (hbw.alloc hsz _) _⟩
        · obtain ⟨m, rfl⟩ : ∃ m, k = m + 1 := ⟨k - 1, by omega⟩
          obtain ⟨b', off', hbo, hB', hcells'⟩ := (HA.out.below hbw).story (show m < l.length by omega)
          obtain ⟨rfl, rfl⟩ : b = b' ∧ off = off' := by simpa using hbo
          have d12 := hcells'.c12
          clear hbo hcells'
          have i1 : (0 : Int) ≤ (m : Int) := by omega
          have i2 : (m : Int) < (l.length : Int) := by omega
          have i3 : (0 : Int) < (m : Int) + 1 := by omega
          have i3d : decide ((0 : Int) < (m : Int) + 1) = true := decide_eq_true i3
          have t1d : decide ((l[m + 1]'hlt).bg < 0) = false := by simpa using t1'
          by_cases t2 : (l[m]'(by omega)).bg < (l[m + 1]'hlt).bg
          · have t2' : decide ((l[m + 1]'hlt).bg ≤ (l[m]'(by omega)).bg) = false := by simp; omega
            by_cases t3 : (l[m + 1]'hlt).en = -1
            · have HOK := hid (hmay.out.succ hlt ⟨by omega, fun j h => (show (l[m]'(by omega)).bg < (l[m + 1]'hlt).bg from t2) |> fun q => by cases (show j = m by omega); exact q, .inl t3⟩)
              have t3' : ((l[m + 1]'hlt).en != -1) = false := by simp [t3]
              clear t3
              go_wp2_with fail
              go_quiet (fail)
              go_wp2
              exact ⟨⟨m + 1 + 1, by omega, by go_num, below_drewN (hbw.alloc hsz _) _, HOK⟩, by simp [intOf]; omega⟩
            · have t3' : ((l[m + 1]'hlt).en != -1) = true := by simpa using t3
              by_cases t4 : (l[m + 1]'hlt).bg < (l[m + 1]'hlt).en
              · have HOK := hid (hmay.out.succ hlt ⟨by omega, fun j h => (show (l[m]'(by omega)).bg < (l[m + 1]'hlt).bg from t2) |> fun q => by cases (show j = m by omega); exact q, .inr t4⟩)
                have t4' : decide ((l[m + 1]'hlt).en ≤ (l[m + 1]'hlt).bg) = false := by simp; omega
                clear t3
                go_wp2_with fail
                go_quiet (fail)
                go_wp2
                exact ⟨⟨m + 1 + 1, by omega, by go_num, below_drewN (hbw.alloc hsz _) _, HOK⟩, by simp [intOf]; omega⟩
              · have HNO := hid (may_no hlt (fun h => by rcases h.2.2 with h | h; exact t3 h; omega))
                have t4' : decide ((l[m + 1]'hlt).en ≤ (l[m + 1]'hlt).bg) = true := by simp; omega
                clear t3 t4
                go_wp2_with fail
                go_quiet (fail)
                go_wp2
                go_ret
                exact ⟨false, rfl, by simpa using HNO.out, below_drewN (hbw.alloc hsz _) _⟩
          · have HNO := hid (may_no hlt (fun h => by have := h.2.1 m rfl; omega))
            have t2' : decide ((l[m + 1]'hlt).bg ≤ (l[m]'(by omega)).bg) = true := by simp; omega
            clear t2
            go_wp2_with fail
            go_quiet (fail)
            go_wp2
            go_ret
            exact ⟨false, rfl, by simpa using HNO.out, below_drewN (hbw.alloc hsz _) _⟩
    · have HYES : Hid (MayS l) := hid (fun i hi _ => hmay.out i hi (by omega))
      go_wp2
      go_ret
      exact ⟨true, rfl, by simpa using HYES.out, hbw⟩
end Go.Proofs.YtamcehfcjcmpmaaDoor
