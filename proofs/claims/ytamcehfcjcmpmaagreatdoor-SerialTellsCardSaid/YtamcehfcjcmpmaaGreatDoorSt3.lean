/- frames.Answer; the stories that are picked out. -/
import Derived.Test.YtamcehfcjcmpmaaGreatDoorIdl2
import Derived.Test.YtamcehfcjcmpmaaGreatDoorIdl10
import Derived.Test.YtamcehfcjcmpmaaGreatDoorOpenCalls
import Derived.Test.YtamcehfcjcmpmaaGreatDoorDrop
import Derived.Laws.Rows
import Derived.Deep.DeepCutAuto
import Derived.Deep.RegionHeld3
/- Stories: what they are in memory; story.May, story.Before, which kinds serial goes through. -/
namespace Go.Proofs.YtamcehfcjcmpmaaGreatDoor
open Go.RowKit

/-- a story, as its fourteen cells say it; slices as they stand -/
structure Story where
  th : Int
  c : Call0
  code : Int
  fd : Bool
  vl : ByteArray
  pA : Option Addr
  pn : Nat
  pc : Nat
  hA : Option Addr
  hn : Nat
  hc : Nat
  ep : Int
  bg : Int
  en : Int
  deriving Inhabited
def Story.enc (s : Story) : List Value := [.int .i64 s.th, .int .i64 s.c.kind, .string s.c.key, .string s.c.val, .string s.c.to, .slice s.c.gA s.c.gn s.c.gc, .int .i64 s.code, .bool s.fd, .string s.vl, .slice s.pA s.pn s.pc, .slice s.hA s.hn s.hc, .int .u64 s.ep, .int .i64 s.bg, .int .i64 s.en]
theorem Story.enc_len (s : Story) : s.enc.length = 14 := rfl
theorem Story.enc_one (s : Story) : ∀ u ∈ s.enc, u.oneCell' = true := by
  intro u hu
  simp [Story.enc] at hu
  rcases hu with rfl | rfl | rfl | rfl | rfl | rfl | rfl | rfl | rfl | rfl | rfl | rfl | rfl | rfl <;> rfl
theorem info_story : (Tryz.prog.info? 52).map (fun i => (i.zero, i.size, i.bytes)) = some (some (.agg #[.int .i64 0, .int .i64 0, .string ByteArray.empty, .string ByteArray.empty, .string ByteArray.empty, .slice none 0 0, .int .i64 0, .bool false, .string ByteArray.empty, .slice none 0 0, .slice none 0 0, .int .u64 0, .int .i64 0, .int .i64 0]), 14, 192) := by kernel_rfl
/-- the cells of a story that lies in memory -/
structure StCells (w : World) (b o : Nat) (s : Story) : Prop where
  c0 : w.cell? ⟨b, o, none⟩ = some (.int .i64 s.th)
  c1 : w.cell? ⟨b, o + 1, none⟩ = some (.int .i64 s.c.kind)
  c2 : w.cell? ⟨b, o + 2, none⟩ = some (.string s.c.key)
  c3 : w.cell? ⟨b, o + 3, none⟩ = some (.string s.c.val)
  c4 : w.cell? ⟨b, o + 4, none⟩ = some (.string s.c.to)
  c5 : w.cell? ⟨b, o + 5, none⟩ = some (.slice s.c.gA s.c.gn s.c.gc)
  c6 : w.cell? ⟨b, o + 6, none⟩ = some (.int .i64 s.code)
  c7 : w.cell? ⟨b, o + 7, none⟩ = some (.bool s.fd)
  c8 : w.cell? ⟨b, o + 8, none⟩ = some (.string s.vl)
  c9 : w.cell? ⟨b, o + 9, none⟩ = some (.slice s.pA s.pn s.pc)
  c10 : w.cell? ⟨b, o + 10, none⟩ = some (.slice s.hA s.hn s.hc)
  c11 : w.cell? ⟨b, o + 11, none⟩ = some (.int .u64 s.ep)
  c12 : w.cell? ⟨b, o + 12, none⟩ = some (.int .i64 s.bg)
  c13 : w.cell? ⟨b, o + 13, none⟩ = some (.int .i64 s.en)
theorem Arr.story {w : World} {B : Nat} {A : Option Addr} {l : List Story} (h : Arr Story.enc 14 w B A l) {i : Nat} (hi : i < l.length) : ∃ b off, A = some ⟨b, off, none⟩ ∧ b < B ∧ StCells w b (off + i * 14) l[i] := by
  rcases h with h | ⟨b, off, hA, hB, hc⟩
  · subst h; simp at hi
  · exact ⟨b, off, hA, hB, hc i hi 0 _ rfl, hc i hi 1 _ rfl, hc i hi 2 _ rfl, hc i hi 3 _ rfl, hc i hi 4 _ rfl, hc i hi 5 _ rfl, hc i hi 6 _ rfl, hc i hi 7 _ rfl, hc i hi 8 _ rfl, hc i hi 9 _ rfl, hc i hi 10 _ rfl, hc i hi 11 _ rfl, hc i hi 12 _ rfl, hc i hi 13 _ rfl⟩
def storyV (s : Story) : Value := .agg #[.int .i64 s.th, .int .i64 s.c.kind, .string s.c.key, .string s.c.val, .string s.c.to, .slice s.c.gA s.c.gn s.c.gc, .int .i64 s.code, .bool s.fd, .string s.vl, .slice s.pA s.pn s.pc, .slice s.hA s.hn s.hc, .int .u64 s.ep, .int .i64 s.bg, .int .i64 s.en]
/-- has one ended ahead of another? -/
def befB (a b : Story) : Bool := decide (0 ≤ a.en) && decide (a.en < b.bg)
theorem before_any (a b : Story) (w : World) : Calls Tryz.prog 34 #[storyV a, storyV b] w fun e w' => e = .returned (.bool (befB a b)) ∧ Below w.heap.size w w' := by
  unfold storyV
  by_cases h1 : 0 ≤ a.en
  · by_cases h2 : a.en < b.bg
    · have e : befB a b = true := by simp [befB, h1, h2]
      rw [e]
      go_enter Tryz.func34, Tryz.ntmps34
      go_wp2
      go_ret
      exact ⟨rfl, (by repeat (first | exact Below.refl _ _ | assumption | refine Below.drew ?_ | refine below_drewN ?_ _ | refine Below.alloc ?_ (by first | omega | (simp; done) | (simp; omega)) _ | refine Below.setCell ?_ (by first | omega | (simp; done) | (simp; omega)) _))⟩
    · have e : befB a b = false := by simp [befB, h2]
      have h2' : b.bg ≤ a.en := by omega
      rw [e]
      go_enter Tryz.func34, Tryz.ntmps34
      go_wp2
      go_ret
      exact ⟨rfl, (by repeat (first | exact Below.refl _ _ | assumption | refine Below.drew ?_ | refine below_drewN ?_ _ | refine Below.alloc ?_ (by first | omega | (simp; done) | (simp; omega)) _ | refine Below.setCell ?_ (by first | omega | (simp; done) | (simp; omega)) _))⟩
  · have e : befB a b = false := by simp [befB, h1]
    have h1' : a.en < 0 := by omega
    rw [e]
    clear h1 e
    go_enter Tryz.func34, Tryz.ntmps34
    go_wp2
    go_ret
    exact ⟨rfl, (by repeat (first | exact Below.refl _ _ | assumption | refine Below.drew ?_ | refine below_drewN ?_ _ | refine Below.alloc ?_ (by first | omega | (simp; done) | (simp; omega)) _ | refine Below.setCell ?_ (by first | omega | (simp; done) | (simp; omega)) _))⟩
/-- is it a kind that serial goes through? -/
def kindB (k : Int) : Bool := k == 1 || k == 2 || k == 3 || k == 4 || k == 5 || k == 7
theorem points1_any (s : Story) (w : World) : Calls Tryz.prog 55 #[storyV s] w fun e w' => e = .returned (.bool (kindB s.c.kind)) ∧ Below w.heap.size w w' := by
  unfold storyV
  by_cases h : kindB s.c.kind = true
  · rw [h]
    simp only [kindB, Bool.or_eq_true, beq_iff_eq] at h
    rcases h with ((((h | h) | h) | h) | h) | h
    all_goals
      rw [h]
      go_enter Tryz.func55, Tryz.ntmps55
      go_wp2
      go_ret
      exact ⟨rfl, (by repeat (first | exact Below.refl _ _ | assumption | refine Below.drew ?_ | refine below_drewN ?_ _ | refine Below.alloc ?_ (by first | omega | (simp; done) | (simp; omega)) _ | refine Below.setCell ?_ (by first | omega | (simp; done) | (simp; omega)) _))⟩
  · have h' : kindB s.c.kind = false := by simpa using h
    rw [h']
    simp only [kindB, Bool.or_eq_false_iff] at h'
    obtain ⟨⟨⟨⟨⟨h1, h2⟩, h3⟩, h4⟩, h5⟩, h7⟩ := h'
    clear h
    go_enter Tryz.func55, Tryz.ntmps55
    go_wp2
    go_ret
    exact ⟨rfl, (by repeat (first | exact Below.refl _ _ | assumption | refine Below.drew ?_ | refine below_drewN ?_ _ | refine Below.alloc ?_ (by first | omega | (simp; done) | (simp; omega)) _ | refine Below.setCell ?_ (by first | omega | (simp; done) | (simp; omega)) _))⟩
/-- may the i-th story stand there? -/
def okSt (l : List Story) (i : Nat) (hi : i < l.length) : Prop := 0 ≤ l[i].bg ∧ (∀ j, (h : j + 1 = i) → (l[j]'(by omega)).bg < l[i].bg) ∧ (l[i].en = -1 ∨ l[i].bg < l[i].en)
def MayTo (l : List Story) (k : Nat) : Prop := ∀ i, (hi : i < l.length) → i < k → okSt l i hi
def MayS (l : List Story) : Prop := MayTo l l.length
theorem MayTo.succ {l : List Story} {k : Nat} (h : MayTo l k) (hk : k < l.length) (h1 : okSt l k hk) : MayTo l (k + 1) := fun i hi hik => by
  rcases (by omega : i < k ∨ i = k) with h' | rfl
  · exact h i hi h'
  · exact h1
theorem may_no {l : List Story} {k : Nat} (hk : k < l.length) (h : ¬ okSt l k hk) : ¬ MayS l := fun hm => h (hm k hk hk)
def GivesMay (l : List Story) (w : World) (e : Ending) (w' : World) : Prop := ∃ r, e = .returned (.bool r) ∧ (r = true ↔ MayS l) ∧ Below w.heap.size w w'
set_option maxHeartbeats 8000000 in
set_option maxRecDepth 100000 in
theorem maySt_any (l : List Story) (A : Option Addr) (c : Nat) (w : World) (hA : Arr Story.enc 14 w w.heap.size A l) (hc : l.length ≤ c) (hm : c ≤ 9223372036854775807) : Calls Tryz.prog 23 #[.slice A l.length c] w (GivesMay l w) := by
  have HA := hid hA
  clear hA
  go_enter Tryz.func23, Tryz.ntmps23
  go_wp2_with fail
  go_loopw [7] (fun v7 wr => ∃ k : Nat, k ≤ l.length ∧ v7 = .int .i64 k ∧ Below w.heap.size w wr ∧ Hid (MayTo l k)) (fun v7 _ => l.length - (intOf v7).toNat)
  case atStart => exact ⟨0, Nat.zero_le _, rfl, Below.refl _ _, hid fun _ _ h => absurd h (by omega)⟩
  case round =>
    obtain ⟨k, hkl, rfl, hbw, hmay⟩ := hrel
    have hsz := hbw.size
    by_cases hlt : k < l.length
    · obtain ⟨b, off, rfl, hB, hcells⟩ := (HA.out.below hbw).story hlt
      obtain ⟨c0, c1, c2, c3, c4, c5, c6, c7, c8, c9, c10, c11, c12, c13⟩ := hcells
      have hbr : b < wr.heap.size := by omega
      by_cases t1 : l[k].bg < 0
      · have HNO := hid (may_no hlt (fun h => by have := h.1; omega))
        go_wp2_with fail
        go_quiet (fail)
        go_wp2
        go_ret
        exact ⟨false, rfl, by simpa using HNO.out, below_drewN (hbw.alloc hsz _) _⟩
      · have t1' : 0 ≤ l[k].bg := by omega
        rcases Nat.eq_zero_or_pos k with hk0 | hk0
        · subst hk0
          have t1d : decide (l[0].bg < 0) = false := by simpa using t1'
          simp only [Nat.zero_mul, Nat.add_zero] at c0 c1 c2 c3 c4 c5 c6 c7 c8 c9 c10 c11 c12 c13
          by_cases t3 : l[0].en = -1
          · have HOK := hid (hmay.out.succ hlt ⟨by omega, fun j h => by omega, .inl t3⟩)
            have t3' : (l[0].en != -1) = false := by simp [t3]
            clear t3
            go_wp2_with fail
            go_quiet (fail)
            go_wp2
            exact ⟨⟨0 + 1, by omega, by go_num, below_drewN (hbw.alloc hsz _) _, HOK⟩, by simp [intOf]; omega⟩
          · have t3' : (l[0].en != -1) = true := by simpa using t3
            by_cases t4 : l[0].bg < l[0].en
            · have HOK := hid (hmay.out.succ hlt ⟨by omega, fun j h => by omega, .inr t4⟩)
              have t4' : decide (l[0].en ≤ l[0].bg) = false := by simp; omega
              clear t3
              go_wp2_with fail
              go_quiet (fail)
              go_wp2
              exact ⟨⟨0 + 1, by omega, by go_num, below_drewN (hbw.alloc hsz _) _, HOK⟩, by simp [intOf]; omega⟩
            · have HNO := hid (may_no hlt (fun h => by rcases h.2.2 with h | h; exact t3 h; omega))
              have t4' : decide (l[0].en ≤ l[0].bg) = true := by simp; omega
              clear t3 t4
              go_wp2_with fail
              go_quiet (fail)
              go_wp2
              go_ret
              exact ⟨false, rfl, by simpa using HNO.out, below_drewN (hbw.alloc hsz _) _⟩
        · obtain ⟨m, rfl⟩ : ∃ m, k = m + 1 := ⟨k - 1, by omega⟩
          obtain ⟨b', off', hbo, hB', hcells'⟩ := (HA.out.below hbw).story (show m < l.length by omega)
          obtain ⟨rfl, rfl⟩ : b = b' ∧ off = off' := by simpa using hbo
          have d12 := hcells'.c12
          clear hbo hcells'
          have i1 : (0 : Int) ≤ (m : Int) := by omega
          have i2 : (m : Int) < (l.length : Int) := by omega
          have i3 : (0 : Int) < (m : Int) + 1 := by omega
          have i3d : decide ((0 : Int) < (m : Int) + 1) = true := decide_eq_true i3
          have t1d : decide ((l[m + 1]'hlt).bg < 0) = false := by simpa using t1'
          by_cases t2 : (l[m]'(by omega)).bg < (l[m + 1]'hlt).bg
          · have t2' : decide ((l[m + 1]'hlt).bg ≤ (l[m]'(by omega)).bg) = false := by simp; omega
            by_cases t3 : (l[m + 1]'hlt).en = -1
            · have HOK := hid (hmay.out.succ hlt ⟨by omega, fun j h => (show (l[m]'(by omega)).bg < (l[m + 1]'hlt).bg from t2) |> fun q => by cases (show j = m by omega); exact q, .inl t3⟩)
              have t3' : ((l[m + 1]'hlt).en != -1) = false := by simp [t3]
              clear t3
              go_wp2_with fail
              go_quiet (fail)
              go_wp2
              exact ⟨⟨m + 1 + 1, by omega, by go_num, below_drewN (hbw.alloc hsz _) _, HOK⟩, by simp [intOf]; omega⟩
            · have t3' : ((l[m + 1]'hlt).en != -1) = true := by simpa using t3
              by_cases t4 : (l[m + 1]'hlt).bg < (l[m + 1]'hlt).en
              · have HOK := hid (hmay.out.succ hlt ⟨by omega, fun j h => (show (l[m]'(by omega)).bg < (l[m + 1]'hlt).bg from t2) |> fun q => by cases (show j = m by omega); exact q, .inr t4⟩)
                have t4' : decide ((l[m + 1]'hlt).en ≤ (l[m + 1]'hlt).bg) = false := by simp; omega
                clear t3
                go_wp2_with fail
                go_quiet (fail)
                go_wp2
                exact ⟨⟨m + 1 + 1, by omega, by go_num, below_drewN (hbw.alloc hsz _) _, HOK⟩, by simp [intOf]; omega⟩
              · have HNO := hid (may_no hlt (fun h => by rcases h.2.2 with h | h; exact t3 h; omega))
                have t4' : decide ((l[m + 1]'hlt).en ≤ (l[m + 1]'hlt).bg) = true := by simp; omega
                clear t3 t4
                go_wp2_with fail
                go_quiet (fail)
                go_wp2
                go_ret
                exact ⟨false, rfl, by simpa using HNO.out, below_drewN (hbw.alloc hsz _) _⟩
          · have HNO := hid (may_no hlt (fun h => by have := h.2.1 m rfl; omega))
            have t2' : decide ((l[m + 1]'hlt).bg ≤ (l[m]'(by omega)).bg) = true := by simp; omega
            clear t2
            go_wp2_with fail
            go_quiet (fail)
            go_wp2
            go_ret
            exact ⟨false, rfl, by simpa using HNO.out, below_drewN (hbw.alloc hsz _) _⟩
    · have HYES : Hid (MayS l) := hid (fun i hi _ => hmay.out i hi (by omega))
      go_wp2
      go_ret
      exact ⟨true, rfl, by simpa using HYES.out, hbw⟩
end Go.Proofs.YtamcehfcjcmpmaaGreatDoor
/- Calls and answers in memory of their own: frames.Call at any depth, frames.Answer. -/
namespace Go.Proofs.YtamcehfcjcmpmaaGreatDoor
open Go.RowKit

theorem Call0.enc_one' (x : Call0) : ∀ u ∈ x.enc, u.oneCell' = true := by
  intro u hu
  simp only [Call0.enc, List.mem_cons, List.not_mem_nil, or_false] at hu
  rcases hu with rfl | rfl | rfl | rfl | rfl <;> rfl
theorem info_callS : (Tryz.prog.info? 46).map (fun i => (i.zero, i.size, i.bytes)) = some (some (.agg #[.int .i64 0, .string ByteArray.empty, .string ByteArray.empty, .string ByteArray.empty, .slice none 0 0]), 5, 80) := by kernel_rfl
theorem app_callS {ops : Array Oper} {rest : List Oper} {o : Oper} {a : Act} {Q : Exit → Act → World → Prop} (w : World) (hgd : o.guard = none) (s x : Operand)
    (ho : o.op = .call { callee := .builtin .append, args := #[s, x], argTypes := #[44, 44] }) {lo : Nat} {A : Option Addr} {c : Nat} {l : List Call0} (hs : a.eval s = .slice A l.length c) (own : Own Call0.enc 46 5 w lo A c l)
    {B : Nat} {A2 : Option Addr} {m : List Call0} (c2 : Nat) (hx : a.eval x = .slice A2 m.length c2) (arr : Arr Call0.enc 5 w B A2 m) (hb : l.length + m.length ≤ 1000000) (hlo : lo ≤ w.heap.size)
    (h : ∀ A' c' w', Own Call0.enc 46 5 w' lo A' c' (l ++ m) → w.grownBy w' (rowOf A c) → (A' = A ∧ c' = c ∨ ∃ g, A' = some ⟨g, 0, none⟩ ∧ w.heap.size ≤ g) → wpList Tryz.prog ops Q rest (a.put o.dst (.slice A' (l.length + m.length) c')) w') :
    wpList Tryz.prog ops Q (o :: rest) a w := by
  obtain ⟨i0, hi, hz0, hz1, hz2⟩ := info_parts info_callS
  exact wpList_append_Own w hgd s x 44 ho i0 _ 80 Tryz.underlying44 hi hz0 hz1 hz2 rfl (by decide) Call0.enc_len Call0.enc_one' hs own c2 hx arr (by unfold maxLen; omega) (by omega) hlo h
set_option maxHeartbeats 1000000 in
theorem cloneCallS (l : List Call0) (A : Option Addr) (c : Nat) (w : World) (hA : Arr Call0.enc 5 w w.heap.size A l) (hc : l.length ≤ c) (_hm : c ≤ 9223372036854775807) (hb : l.length ≤ 1000000) :
    Calls Tryz.prog 85 #[.slice A l.length c] w (Gives Call0.enc 46 5 l w) := by
  have HB := hid hb
  clear hb
  have hnil := fun W : World => Lib.run_eql_slice_nil (P := Tryz.prog) W 44 46 A l.length c 0 0 Tryz.underlying44
  cases A with
  | none =>
    go_enter Tryz.func85, Tryz.ntmps85
    go_wp2
    go_ret
    have hl : l = [] := by
      rcases hA with h | ⟨b, off, h, _⟩
      · exact h
      · cases h
    subst hl
    exact ⟨none, 0, rfl, Own.none_, Below.refl _ _⟩
  | some a =>
    go_enter Tryz.func85, Tryz.ntmps85
    go_wp2_with (at_builtin; refine app_callS (l := []) (m := l) _ rfl (.tmp 5) (.tmp 6) rfl rfl (Own.zero (lo := w.heap.size)) c rfl (hA.below ((Below.refl _ w).alloc (Nat.le_refl _) _)) (by simpa using HB.out) (by simp) ?_; intro A' c' w' hown hgr hloc)
    go_ret
    refine ⟨A', c', by simp, by simpa using hown, ((Below.refl _ w).alloc (Nat.le_refl _) _).grown hgr (by simp) (fun k hk => ?_)⟩
    simp [rowOf] at hk
set_option maxHeartbeats 1000000 in
theorem cloneBit (l : List Bool) (A : Option Addr) (c : Nat) (w : World) (hA : Arr bit 1 w w.heap.size A l) (hc : l.length ≤ c) (_hm : c ≤ 9223372036854775807) (hb : l.length ≤ 1000000) :
    Calls Tryz.prog 86 #[.slice A l.length c] w (Gives bit 4 1 l w) := by
  have HB := hid hb
  clear hb
  have hnil := fun W : World => Lib.run_eql_slice_nil (P := Tryz.prog) W 47 4 A l.length c 0 0 Tryz.underlying47
  cases A with
  | none =>
    go_enter Tryz.func86, Tryz.ntmps86
    go_wp2
    go_ret
    have hl : l = [] := by
      rcases hA with h | ⟨b, off, h, _⟩
      · exact h
      · cases h
    subst hl
    exact ⟨none, 0, rfl, Own.none_, Below.refl _ _⟩
  | some a =>
    go_enter Tryz.func86, Tryz.ntmps86
    go_wp2_with (at_builtin; refine app_bit (l := []) (m := l) _ rfl (.tmp 5) (.tmp 6) rfl rfl (Own.zero (lo := w.heap.size)) c rfl (hA.below ((Below.refl _ w).alloc (Nat.le_refl _) _)) (by simpa using HB.out) (by simp) ?_; intro A' c' w' hown hgr hloc)
    go_ret
    refine ⟨A', c', by simp, by simpa using hown, ((Below.refl _ w).alloc (Nat.le_refl _) _).grown hgr (by simp) (fun k hk => ?_)⟩
    simp [rowOf] at hk
/-- a call in a row set anew -/
theorem Own.setCall {w : World} {lo : Nat} {b off c : Nat} {l : List Call0} (h : Own Call0.enc 46 5 w lo (some ⟨b, off, none⟩) c l) {i : Nat} (hi : i < l.length) (x : Call0) :
    Own Call0.enc 46 5 (w.setCells b (off + i * 5) x.enc) lo (some ⟨b, off, none⟩) c (l.set i x) := by
  obtain ⟨h1, h2, h3⟩ := h
  rcases h3 with h3 | ⟨b', off', cur, hA, hlo, hh, hs, hc⟩
  · omega
  cases hA
  obtain ⟨cur', g1, g2, g3, g4, g5⟩ := heap_setCells x.enc (off + i * 5) w cur hh (by rw [Call0.enc_len]; omega)
  rw [Call0.enc_len] at g4
  refine ⟨by rw [List.length_set]; exact h1, h2, .inr ⟨b, off, cur', rfl, hlo, g1, by omega, ?_⟩⟩
  intro j u hu
  have hlt := (List.getElem?_eq_some_iff.1 hu).1
  rw [flat_length Call0.enc_len, List.length_set] at hlt
  obtain ⟨q, r, rfl, hq, hr⟩ : ∃ q r, j = q * 5 + r ∧ q < l.length ∧ r < 5 := ⟨j / 5, j % 5, by omega, by omega, by omega⟩
  rw [flat_get Call0.enc_len _ q (by rw [List.length_set]; exact hq) r hr, List.getElem_set] at hu
  have hold := fun u' => hc (q * 5 + r) u'
  rw [flat_get Call0.enc_len l q hq r hr] at hold
  by_cases hqi : i = q
  · subst hqi
    rw [if_pos rfl] at hu
    have := g5 r u hu
    rwa [Nat.add_assoc] at this
  · rw [if_neg hqi] at hu
    by_cases hlq : q < i
    · rw [g3 _ (by omega)]; exact hold u hu
    · rw [g4 _ (by omega)]; exact hold u hu
def callV (c : Call0) : Value := .agg #[.int .i64 c.kind, .string c.key, .string c.val, .string c.to, .slice c.gA c.gn c.gc]
/-- a call that lies in memory with its group, and theirs, so deep -/
def Deep (w : World) (B : Nat) : Nat → Call0 → Prop
  | 0, _ => False
  | n + 1, c => ∃ g, CallIn w B c g ∧ g.length ≤ 1000000 ∧ ∀ x ∈ g, Deep w B n x
theorem Deep.below {w w' : World} {B : Nat} (hb : Below B w w') : ∀ {n : Nat} {c : Call0}, Deep w B n c → Deep w' B n c
  | 0, _, h => h
  | _ + 1, _, ⟨g, h1, h2, h3⟩ => ⟨g, h1.below hb, h2, fun x hx => (h3 x hx).below hb⟩
theorem Deep.more {w : World} {B B' : Nat} (hB : B ≤ B') : ∀ {n : Nat} {c : Call0}, Deep w B n c → Deep w B' n c
  | 0, _, h => h
  | _ + 1, _, ⟨g, h1, h2, h3⟩ => ⟨g, h1.more hB, h2, fun x hx => (h3 x hx).more hB⟩
def GivesFC (w : World) (e : Ending) (w' : World) : Prop := ∃ y : Call0, e = .returned (callV y) ∧ Below w.heap.size w w'
theorem bcellS {W w1 : World} (hb : Below W.heap.size W w1) : (∀ b o, b < W.heap.size → w1.cell? ⟨b, o, none⟩ = W.cell? ⟨b, o, none⟩) ∧ (∀ b o, b < W.heap.size → w1.frozen? ⟨b, o, none⟩ = W.frozen? ⟨b, o, none⟩) :=
  ⟨fun b o h => hb.cell (p := ⟨b, o, none⟩) h, fun b o h => hb.frozen (p := ⟨b, o, none⟩) h⟩
theorem keepFC {W W' : World} {n q : Nat} {u v0 v1 v2 v3 v4 : Value} (hb : Below W.heap.size W W') (hn : n < W.heap.size) (hq : q < W.heap.size)
    (h : W.cell? ⟨n, 4, none⟩ = some u ∧ W.cell? ⟨q, 0, none⟩ = some v0 ∧ W.cell? ⟨q, 1, none⟩ = some v1 ∧ W.cell? ⟨q, 2, none⟩ = some v2 ∧ W.cell? ⟨q, 3, none⟩ = some v3 ∧ W.cell? ⟨q, 4, none⟩ = some v4) :
    W'.cell? ⟨n, 4, none⟩ = some u ∧ W'.cell? ⟨q, 0, none⟩ = some v0 ∧ W'.cell? ⟨q, 1, none⟩ = some v1 ∧ W'.cell? ⟨q, 2, none⟩ = some v2 ∧ W'.cell? ⟨q, 3, none⟩ = some v3 ∧ W'.cell? ⟨q, 4, none⟩ = some v4 := by
  rw [hb.cell (p := ⟨n, 4, none⟩) hn, hb.cell (p := ⟨q, 0, none⟩) hq, hb.cell (p := ⟨q, 1, none⟩) hq, hb.cell (p := ⟨q, 2, none⟩) hq, hb.cell (p := ⟨q, 3, none⟩) hq, hb.cell (p := ⟨q, 4, none⟩) hq]
  exact h
theorem below_set5S {B : Nat} {w w' : World} {b : Nat} (h : Below B w w') (hb : B ≤ b) (o : Nat) (u0 u1 u2 u3 u4 : Value) : Below B w (((((w'.setCell ⟨b, o, none⟩ u0).setCell ⟨b, o + 1, none⟩ u1).setCell ⟨b, o + 2, none⟩ u2).setCell ⟨b, o + 3, none⟩ u3).setCell ⟨b, o + 4, none⟩ u4) :=
  ((((h.setCell hb _).setCell hb _).setCell hb _).setCell hb _).setCell hb _
theorem heap_set5S {w : World} {b p : Nat} (h : p ≠ b) (o : Nat) (u0 u1 u2 u3 u4 : Value) : (((((w.setCell ⟨b, o, none⟩ u0).setCell ⟨b, o + 1, none⟩ u1).setCell ⟨b, o + 2, none⟩ u2).setCell ⟨b, o + 3, none⟩ u3).setCell ⟨b, o + 4, none⟩ u4).heap[p]? = w.heap[p]? := by
  rw [Below.heap_setCell _ _ _ _ h, Below.heap_setCell _ _ _ _ h, Below.heap_setCell _ _ _ _ h, Below.heap_setCell _ _ _ _ h, Below.heap_setCell _ _ _ _ h]
theorem cell_set5S {w : World} {b p o' : Nat} (h : p ≠ b) (o : Nat) (u0 u1 u2 u3 u4 : Value) : (((((w.setCell ⟨b, o, none⟩ u0).setCell ⟨b, o + 1, none⟩ u1).setCell ⟨b, o + 2, none⟩ u2).setCell ⟨b, o + 3, none⟩ u3).setCell ⟨b, o + 4, none⟩ u4).cell? ⟨p, o', none⟩ = w.cell? ⟨p, o', none⟩ := by
  unfold World.cell?
  rw [heap_set5S h]
theorem keepFC5 {W : World} {n q b : Nat} {u v0 v1 v2 v3 v4 : Value} (hn : n ≠ b) (hq : q ≠ b) (o : Nat) (u0 u1 u2 u3 u4 : Value)
    (h : W.cell? ⟨n, 4, none⟩ = some u ∧ W.cell? ⟨q, 0, none⟩ = some v0 ∧ W.cell? ⟨q, 1, none⟩ = some v1 ∧ W.cell? ⟨q, 2, none⟩ = some v2 ∧ W.cell? ⟨q, 3, none⟩ = some v3 ∧ W.cell? ⟨q, 4, none⟩ = some v4) :
    (((((W.setCell ⟨b, o, none⟩ u0).setCell ⟨b, o + 1, none⟩ u1).setCell ⟨b, o + 2, none⟩ u2).setCell ⟨b, o + 3, none⟩ u3).setCell ⟨b, o + 4, none⟩ u4).cell? ⟨n, 4, none⟩ = some u ∧ (((((W.setCell ⟨b, o, none⟩ u0).setCell ⟨b, o + 1, none⟩ u1).setCell ⟨b, o + 2, none⟩ u2).setCell ⟨b, o + 3, none⟩ u3).setCell ⟨b, o + 4, none⟩ u4).cell? ⟨q, 0, none⟩ = some v0 ∧ (((((W.setCell ⟨b, o, none⟩ u0).setCell ⟨b, o + 1, none⟩ u1).setCell ⟨b, o + 2, none⟩ u2).setCell ⟨b, o + 3, none⟩ u3).setCell ⟨b, o + 4, none⟩ u4).cell? ⟨q, 1, none⟩ = some v1 ∧ (((((W.setCell ⟨b, o, none⟩ u0).setCell ⟨b, o + 1, none⟩ u1).setCell ⟨b, o + 2, none⟩ u2).setCell ⟨b, o + 3, none⟩ u3).setCell ⟨b, o + 4, none⟩ u4).cell? ⟨q, 2, none⟩ = some v2 ∧ (((((W.setCell ⟨b, o, none⟩ u0).setCell ⟨b, o + 1, none⟩ u1).setCell ⟨b, o + 2, none⟩ u2).setCell ⟨b, o + 3, none⟩ u3).setCell ⟨b, o + 4, none⟩ u4).cell? ⟨q, 3, none⟩ = some v3 ∧ (((((W.setCell ⟨b, o, none⟩ u0).setCell ⟨b, o + 1, none⟩ u1).setCell ⟨b, o + 2, none⟩ u2).setCell ⟨b, o + 3, none⟩ u3).setCell ⟨b, o + 4, none⟩ u4).cell? ⟨q, 4, none⟩ = some v4 := by
  rw [cell_set5S hn, cell_set5S hq, cell_set5S hq, cell_set5S hq, cell_set5S hq, cell_set5S hq]
  exact h
/-- the loop of frames.Call, as far as it came -/
structure FCInv (w : World) (c : Call0) (g : List Call0) (A : Option Addr) (cc k : Nat) (wr : World) : Prop where
  own : ∃ M : List Call0, M.length = g.length ∧ Own Call0.enc 46 5 wr (w.heap.size + 2) A cc M ∧ ∀ i, k ≤ i → M[i]? = g[i]?
  row0 : wr.heap[w.heap.size]? = some (.cells #[.int .i64 c.kind, .string c.key, .string c.val, .string c.to, .slice A g.length cc] 46 (0, 0))
  row1 : wr.heap[w.heap.size + 1]? = some (.cells #[.int .i64 0, .string ByteArray.empty, .string ByteArray.empty, .string ByteArray.empty, .slice none 0 0] 46 (0, 0))
  below : Below w.heap.size w wr
  size : w.heap.size + 2 ≤ wr.heap.size
set_option maxHeartbeats 4000000 in
set_option maxRecDepth 100000 in
theorem framesCall_any : ∀ (d : Nat) (c : Call0) (w : World), Deep w w.heap.size d c → Calls Tryz.prog 72 #[callV c] w (GivesFC w)
  | 0, _, _, h => h.elim
  | d + 1, c, w, ⟨g, hc, hlen, hdeep⟩ => by
    have IH := hid (framesCall_any d)
    obtain ⟨kind, key, val, to', gA, gn, gc⟩ := c
    obtain rfl : gn = g.length := hc.len
    have HC := hid hc
    have HD := hid hdeep
    have HL := hid hlen
    clear hc hdeep hlen
    unfold callV
    go_enter Tryz.func72, Tryz.ntmps72
    go_wp2_with fail
    refine (cloneCallS g gA gc _ ?_ HC.out.cap HC.out.max HL.out).mono ?_
    · exact (HC.out.arr.below (by repeat (first | exact Below.refl _ _ | assumption | refine Below.drew ?_ | refine below_drewN ?_ _ | refine Below.alloc ?_ (by first | omega | (simp; done) | (simp; omega)) _ | refine Below.setCell ?_ (by first | omega | (simp; done) | (simp; omega)) _))).more (by first | omega | (simp; done) | (simp; omega))
    rintro e w1 ⟨A, cc, rfl, hown, hb1⟩
    have hz1 := hb1.size
    simp only [World.size_alloc] at hz1
    have hR0 : w1.heap[w.heap.size]? = some (.cells #[.int .i64 kind, .string key, .string val, .string to', .slice gA g.length gc] 46 (0, 0)) := (hb1.block _ (by simp; omega)).trans (by rw [heap_alloc_if, if_neg (by simp), heap_alloc_if, if_pos rfl])
    have hR1 : w1.heap[w.heap.size + 1]? = some (.cells #[.int .i64 0, .string ByteArray.empty, .string ByteArray.empty, .string ByteArray.empty, .slice none 0 0] 46 (0, 0)) := (hb1.block _ (by simp)).trans (by rw [heap_alloc_if, if_pos (by simp)]; rfl)
    have hB1 : Below w.heap.size w w1 := Below.trans (by repeat (first | exact Below.refl _ _ | assumption | refine Below.drew ?_ | refine below_drewN ?_ _ | refine Below.alloc ?_ (by first | omega | (simp; done) | (simp; omega)) _ | refine Below.setCell ?_ (by first | omega | (simp; done) | (simp; omega)) _)) (hb1.mono (by first | omega | (simp; done) | (simp; omega)))
    have f4 := frozen_of_row w1 _ 4 _ _ hR0
    have hl0 : w.heap.size < w1.heap.size := by omega
    have hS0 : (w1.setCell ⟨w.heap.size, 4, none⟩ (.slice A g.length cc)).heap[w.heap.size]? = some (.cells #[.int .i64 kind, .string key, .string val, .string to', .slice A g.length cc] 46 (0, 0)) := by
      have := heap_setCell_same _ (w.heap.size) 4 _ _ (.slice A g.length cc) hR0
      exact this
    have hS1 : (w1.setCell ⟨w.heap.size, 4, none⟩ (.slice A g.length cc)).heap[w.heap.size + 1]? = _ := (Below.heap_setCell _ _ _ _ (by simp)).trans hR1
    have hI : FCInv w ⟨kind, key, val, to', gA, g.length, gc⟩ g A cc 0 (w1.setCell ⟨w.heap.size, 4, none⟩ (.slice A g.length cc)) :=
      ⟨⟨g, rfl, Own.setCell (hown.lower (by simp)) (by show w.heap.size < w.heap.size + 2; omega) _, fun _ _ => rfl⟩, hS0, hS1, hB1.setCell (Nat.le_refl _) _, by simp; omega⟩
    have HI := hid hI
    have hm := hown.max
    have hcl := hown.len
    clear hI hS0 hS1 hown hb1 hB1
    have c4 := cell_of_row w1 _ 4 _ _ _ hR0
    go_wp2_with fail
    go_loopw [12] (fun v12 wr => ∃ k : Nat, k ≤ g.length ∧ v12 = .int .i64 k ∧ FCInv w ⟨kind, key, val, to', gA, g.length, gc⟩ g A cc k wr) (fun v12 _ => g.length - (intOf v12).toNat)
    case atStart => exact ⟨0, Nat.zero_le _, rfl, HI.out⟩
    case round =>
      obtain ⟨k, hkl, rfl, ⟨M, hML, hO, hMg⟩, hr0, hr1, hbr, hzr⟩ := hrel
      by_cases hlt : k < g.length
      · have hMk : M[k]'(by omega) = g[k] := by
          have := hMg k (Nat.le_refl _)
          rw [List.getElem?_eq_getElem (by omega), List.getElem?_eq_getElem hlt] at this
          exact Option.some.inj this
        obtain ⟨b, off, rfl, hlb, hbw⟩ : ∃ b off, A = some ⟨b, off, none⟩ ∧ w.heap.size + 2 ≤ b ∧ b < wr.heap.size := by
          rcases hO.lt with h0 | h0
          · omega
          · exact h0
        have f0 := hO.frozen rfl (by omega) (off + k * 5)
        have f1 := hO.frozen rfl (by omega) (off + k * 5 + 1)
        have f2 := hO.frozen rfl (by omega) (off + k * 5 + 2)
        have f3 := hO.frozen rfl (by omega) (off + k * 5 + 3)
        have f4 := hO.frozen rfl (by omega) (off + k * 5 + 4)
        obtain ⟨b', off', hA, hB, d0, d1, d2, d3, d4⟩ := (hO.arr Call0.enc_len).call0 (i := k) (by omega)
        cases hA
        rw [hMk] at d0 d1 d2 d3 d4
        have hdk := HD.out g[k] (List.getElem_mem hlt)
        have n4 := cell_of_row wr _ 4 _ _ _ hr0
        have HO := hid hO
        have HR := hid hr0
        have HS := hid hr1
        have HG := hid hMg
        have HDK := hid (hdk.below hbr)
        have hsw : w.heap.size < wr.heap.size := by omega
        clear hO hr0 hr1 hMg hMk hdk
        have i1 : (0 : Int) ≤ (k : Int) := by omega
        have i2 : (k : Int) < (g.length : Int) := by omega
        go_upto_region 5 with fail
        obtain ⟨wl, hwl⟩ : ∃ wl, wl = wr.alloc (.cells #[.int .i64 g[k].kind, .string g[k].key, .string g[k].val, .string g[k].to, .slice g[k].gA g[k].gn g[k].gc] 46) := ⟨_, rfl⟩
        rw [← hwl]
        have zl : wl.heap.size = wr.heap.size + 1 := by rw [hwl]; simp
        have bl : Below wr.heap.size wr wl := by rw [hwl]; exact (Below.refl _ _).alloc (Nat.le_refl _) _
        have HK := hid (show wl.cell? ⟨w.heap.size, 4, none⟩ = some (.slice (some ⟨b, off, none⟩) g.length cc) ∧ wl.cell? ⟨wr.heap.size, 0, none⟩ = some (.int .i64 g[k].kind) ∧ wl.cell? ⟨wr.heap.size, 1, none⟩ = some (.string g[k].key) ∧ wl.cell? ⟨wr.heap.size, 2, none⟩ = some (.string g[k].val) ∧ wl.cell? ⟨wr.heap.size, 3, none⟩ = some (.string g[k].to) ∧ wl.cell? ⟨wr.heap.size, 4, none⟩ = some (.slice g[k].gA g[k].gn g[k].gc) from ⟨(bl.cell (p := ⟨w.heap.size, 4, none⟩) hsw).trans n4, by rw [hwl]; simp [go_sem], by rw [hwl]; simp [go_sem], by rw [hwl]; simp [go_sem], by rw [hwl]; simp [go_sem], by rw [hwl]; simp [go_sem]⟩)
        have HOl := hid (HO.out.below bl)
        have HRl := hid ((bl.block _ hsw).trans HR.out)
        have HSl := hid ((bl.block (w.heap.size + 1) (by omega)).trans HS.out)
        have HDl := hid ((HDK.out.below (bl.mono hbr.size)).more (show w.heap.size ≤ wl.heap.size by omega))
        have HBl := hid (hbr.trans (bl.mono hbr.size))
        have f0l := (bl.frozen (p := ⟨b, off + k * 5, none⟩) hbw).trans f0
        have f1l := (bl.frozen (p := ⟨b, off + k * 5 + 1, none⟩) hbw).trans f1
        have f2l := (bl.frozen (p := ⟨b, off + k * 5 + 2, none⟩) hbw).trans f2
        have f3l := (bl.frozen (p := ⟨b, off + k * 5 + 3, none⟩) hbw).trans f3
        have f4l := (bl.frozen (p := ⟨b, off + k * 5 + 4, none⟩) hbw).trans f4
        have d0l := (bl.cell (p := ⟨b, off + k * 5, none⟩) hbw).trans d0
        have d1l := (bl.cell (p := ⟨b, off + k * 5 + 1, none⟩) hbw).trans d1
        have d2l := (bl.cell (p := ⟨b, off + k * 5 + 2, none⟩) hbw).trans d2
        have d3l := (bl.cell (p := ⟨b, off + k * 5 + 3, none⟩) hbw).trans d3
        have d4l := (bl.cell (p := ⟨b, off + k * 5 + 4, none⟩) hbw).trans d4
        clear d0 d1 d2 d3 d4
        clear HO HR HS HDK hbr bl f0 f1 f2 f3 f4 n4 hwl HI c4 hR0 hR1
        have IHk : ∀ W : World, Deep W W.heap.size d g[k] → Calls Tryz.prog 72 #[.agg #[.int .i64 g[k].kind, .string g[k].key, .string g[k].val, .string g[k].to, .slice g[k].gA g[k].gn g[k].gc]] W (GivesFC W) := fun W h => IH.out g[k] W h
        have HDk : ∀ W : World, Below wl.heap.size wl W → Deep W W.heap.size d g[k] := fun W hW => (HDl.out.below hW).more hW.size
        have hq : wr.heap.size < wl.heap.size := by omega
        have hn : w.heap.size < wl.heap.size := by omega
        have hbl : b < wl.heap.size := by omega
        have hnb : w.heap.size ≠ b := by omega
        have hqb : wr.heap.size ≠ b := by omega
        go_region_held3 (fun W => W.cell? ⟨w.heap.size, 4, none⟩ = some (.slice (some ⟨b, off, none⟩) g.length cc) ∧ W.cell? ⟨wr.heap.size, 0, none⟩ = some (.int .i64 g[k].kind) ∧ W.cell? ⟨wr.heap.size, 1, none⟩ = some (.string g[k].key) ∧ W.cell? ⟨wr.heap.size, 2, none⟩ = some (.string g[k].val) ∧ W.cell? ⟨wr.heap.size, 3, none⟩ = some (.string g[k].to) ∧ W.cell? ⟨wr.heap.size, 4, none⟩ = some (.slice g[k].gA g[k].gn g[k].gc)) (first | (with_reducible refine keepFC (W := wl) ?_ hn hq HK.out; (repeat (first | with_reducible exact Below.refl _ _ | with_reducible assumption | with_reducible refine Below.drew ?_ | with_reducible refine below_drewN ?_ _)); done) | with_reducible exact keepFC5 hnb hqb _ _ _ _ _ _ (keepFC (W := wl) stC hn hq HK.out) | go_keep) (first | (go_at_call 72; refine (IHk _ (HDk _ ?_)).mono ?_; exact (by repeat (first | with_reducible exact Below.refl _ _ | with_reducible assumption | with_reducible refine Below.drew ?_ | with_reducible refine below_drewN ?_ _ | with_reducible refine Below.alloc ?_ (by first | omega | (simp; done) | (simp; omega)) _ | with_reducible refine Below.setCell ?_ (by first | omega | (simp; done) | (simp; omega)) _)); rintro e wC ⟨y, rfl, hbC⟩; have sC := hbC.size; (try simp only [World.size_drew] at sC); have stC : Below wl.heap.size wl wC := (by refine Below.trans ?_ (hbC.mono ?_); exact (by repeat (first | with_reducible exact Below.refl _ _ | with_reducible assumption | with_reducible refine Below.drew ?_ | with_reducible refine below_drewN ?_ _ | with_reducible refine Below.alloc ?_ (by first | omega | (simp; done) | (simp; omega)) _ | with_reducible refine Below.setCell ?_ (by first | omega | (simp; done) | (simp; omega)) _)); (first | exact Nat.le_refl _ | (simp; done) | (simp; omega))); unfold callV; have hblC : b < wC.heap.size := (by omega); have f0C := (stC.frozen (p := ⟨b, off + k * 5, none⟩) hbl).trans f0l; have f1C := (stC.frozen (p := ⟨b, off + k * 5 + 1, none⟩) hbl).trans f1l; have f2C := (stC.frozen (p := ⟨b, off + k * 5 + 2, none⟩) hbl).trans f2l; have f3C := (stC.frozen (p := ⟨b, off + k * 5 + 3, none⟩) hbl).trans f3l; have f4C := (stC.frozen (p := ⟨b, off + k * 5 + 4, none⟩) hbl).trans f4l; have d0C := (stC.cell (p := ⟨b, off + k * 5, none⟩) hbl).trans d0l; have d1C := (stC.cell (p := ⟨b, off + k * 5 + 1, none⟩) hbl).trans d1l; have d2C := (stC.cell (p := ⟨b, off + k * 5 + 2, none⟩) hbl).trans d2l; have d3C := (stC.cell (p := ⟨b, off + k * 5 + 3, none⟩) hbl).trans d3l; have d4C := (stC.cell (p := ⟨b, off + k * 5 + 4, none⟩) hbl).trans d4l))
        all_goals
          have hR := heap_set5S hnb (off + k * 5) (.int .i64 y.kind) (.string y.key) (.string y.val) (.string y.to) (.slice y.gA y.gn y.gc) |>.trans ((stC.block _ hn).trans HRl.out)
          have hS := heap_set5S (show w.heap.size + 1 ≠ b by omega) (off + k * 5) (.int .i64 y.kind) (.string y.key) (.string y.val) (.string y.to) (.slice y.gA y.gn y.gc) |>.trans ((stC.block (w.heap.size + 1) (by omega)).trans HSl.out)
          have hO := ((HOl.out.below stC).setCall (i := k) (by omega) y)
          have hB := below_set5S (HBl.out.trans (stC.mono (by omega))) (show w.heap.size ≤ b by omega) (off + k * 5) (.int .i64 y.kind) (.string y.key) (.string y.val) (.string y.to) (.slice y.gA y.gn y.gc)
          have HR' := hid hR
          have HS' := hid hS
          have HO' := hid hO
          have HB' := hid hB
          clear hR hS hO hB d0C d1C d2C d3C d4C d0l d1l d2l d3l d4l
          go_wp2_with fail
          exact ⟨⟨k + 1, by omega, by go_num, ⟨M.set k y, by rw [List.length_set]; exact hML, HO'.out, fun i hi => by rw [List.getElem?_set_ne (by omega)]; exact HG.out i (by omega)⟩, HR'.out, HS'.out, HB'.out, by simp only [World.size_setCell]; omega⟩, by simp [intOf]; omega⟩
      · obtain rfl : k = g.length := by omega
        have x0 := cell_of_row wr _ 0 _ _ _ hr0
        have x1 := cell_of_row wr _ 1 _ _ _ hr0
        have x2 := cell_of_row wr _ 2 _ _ _ hr0
        have x3 := cell_of_row wr _ 3 _ _ _ hr0
        have x4 := cell_of_row wr _ 4 _ _ _ hr0
        have y0 := cell_of_row wr _ 0 _ _ _ hr1
        have y1 := cell_of_row wr _ 1 _ _ _ hr1
        have y2 := cell_of_row wr _ 2 _ _ _ hr1
        have y3 := cell_of_row wr _ 3 _ _ _ hr1
        have y4 := cell_of_row wr _ 4 _ _ _ hr1
        have g0 := frozen_of_row wr _ 0 _ _ hr1
        have g1 := frozen_of_row wr _ 1 _ _ hr1
        have g2 := frozen_of_row wr _ 2 _ _ hr1
        have g3 := frozen_of_row wr _ 3 _ _ hr1
        have g4 := frozen_of_row wr _ 4 _ _ hr1
        have hl1 : w.heap.size + 1 < wr.heap.size := by omega
        have hl2 : w.heap.size < wr.heap.size := by omega
        clear hr0 hr1 hO hMg
        go_wp2_with fail
        refine bodyPost_ret (v := callV ⟨kind, key, val, to', A, g.length, cc⟩) (by simp [results, Tryz.results72, go_sem, callV, y0, y1, y2, y3, y4]) rfl ⟨_, rfl, ?_⟩
        exact (by repeat (first | with_reducible exact Below.refl _ _ | with_reducible assumption | with_reducible refine Below.drew ?_ | with_reducible refine below_drewN ?_ _ | with_reducible refine Below.alloc ?_ (by first | omega | (simp; done) | (simp; omega)) _ | with_reducible refine Below.setCell ?_ (by first | omega | (simp; done) | (simp; omega)) _))
end Go.Proofs.YtamcehfcjcmpmaaGreatDoor
namespace Go.Proofs.YtamcehfcjcmpmaaGreatDoor
open Go.RowKit

/-- a story's answer in memory: its pairs and its hits -/
structure AnsIn (w : World) (B : Nat) (s : Story) (ps : List Pair) (hs : List Bool) : Prop where
  parr : Arr Pair.enc 2 w B s.pA ps
  plen : s.pn = ps.length
  pcap : ps.length ≤ s.pc
  pmax : s.pc ≤ 9223372036854775807
  harr : Arr bit 1 w B s.hA hs
  hlen : s.hn = hs.length
  hcap : hs.length ≤ s.hc
  hmax : s.hc ≤ 9223372036854775807
theorem AnsIn.below {w w' : World} {B : Nat} {s : Story} {ps : List Pair} {hs : List Bool} (h : AnsIn w B s ps hs) (hb : Below B w w') : AnsIn w' B s ps hs :=
  ⟨h.parr.below hb, h.plen, h.pcap, h.pmax, h.harr.below hb, h.hlen, h.hcap, h.hmax⟩
theorem AnsIn.more {w : World} {B B' : Nat} {s : Story} {ps : List Pair} {hs : List Bool} (h : AnsIn w B s ps hs) (hB : B ≤ B') : AnsIn w B' s ps hs :=
  ⟨h.parr.more hB, h.plen, h.pcap, h.pmax, h.harr.more hB, h.hlen, h.hcap, h.hmax⟩
def ansV (s : Story) : Value := .agg #[.int .i64 s.code, .bool s.fd, .string s.vl, .slice s.pA s.pn s.pc, .slice s.hA s.hn s.hc, .int .u64 s.ep]
/-- an answer as a result -/
def GivesFA (s : Story) (w : World) (e : Ending) (w' : World) : Prop := ∃ PA pn pc HA hn hc, e = .returned (.agg #[.int .i64 s.code, .bool s.fd, .string s.vl, .slice PA pn pc, .slice HA hn hc, .int .u64 s.ep]) ∧ Below w.heap.size w w'
set_option maxHeartbeats 4000000 in
set_option maxRecDepth 100000 in
theorem framesAnswer_any (s : Story) (ps : List Pair) (hs : List Bool) (w : World) (h : AnsIn w w.heap.size s ps hs) (hp : ps.length ≤ 1000000) (hh : hs.length ≤ 1000000) : Calls Tryz.prog 73 #[ansV s] w (GivesFA s w) := by
  obtain ⟨th, c, code, fd, vl, pA, pn, pc, hA, hn, hc, ep, bg, en⟩ := s
  obtain rfl : pn = ps.length := h.plen
  obtain rfl : hn = hs.length := h.hlen
  have H := hid h
  have HP := hid hp
  have HH := hid hh
  clear h hp hh
  unfold ansV
  go_enter Tryz.func73, Tryz.ntmps73
  go_wp2_with fail
  refine (clonePair ps pA pc _ ?_ H.out.pcap H.out.pmax HP.out).mono ?_
  · exact (H.out.parr.below (by repeat (first | exact Below.refl _ _ | assumption | refine Below.drew ?_ | refine below_drewN ?_ _ | refine Below.alloc ?_ (by first | omega | (simp; done) | (simp; omega)) _ | refine Below.setCell ?_ (by first | omega | (simp; done) | (simp; omega)) _))).more (by first | omega | (simp; done) | (simp; omega))
  rintro e w1 ⟨A, cc, rfl, -, hb1⟩
  have hz1 := hb1.size
  simp only [World.size_alloc] at hz1
  have R0 : w1.heap[w.heap.size]? = some (.cells #[.int .i64 code, .bool fd, .string vl, .slice pA ps.length pc, .slice hA hs.length hc, .int .u64 ep] 50 (0, 0)) := (hb1.block _ (by simp; omega)).trans (by rw [heap_alloc_if, if_neg (by simp), heap_alloc_if, if_pos rfl])
  have R1 : w1.heap[w.heap.size + 1]? = some (.cells #[.int .i64 0, .bool false, .string ByteArray.empty, .slice none 0 0, .slice none 0 0, .int .u64 0] 50 (0, 0)) := (hb1.block _ (by simp)).trans (by rw [heap_alloc_if, if_pos (by simp)]; rfl)
  have bw1 : Below w.heap.size w w1 := Below.trans (by repeat (first | exact Below.refl _ _ | assumption | refine Below.drew ?_ | refine below_drewN ?_ _ | refine Below.alloc ?_ (by first | omega | (simp; done) | (simp; omega)) _ | refine Below.setCell ?_ (by first | omega | (simp; done) | (simp; omega)) _)) (hb1.mono (by first | omega | (simp; done) | (simp; omega)))
  have f3 := frozen_of_row w1 _ 3 _ _ R0
  have c3 := cell_of_row w1 _ 3 _ _ _ R0
  have c4 := cell_of_row w1 _ 4 _ _ _ R0
  have hl0 : w.heap.size < w1.heap.size := by omega
  have S0 : (w1.setCell ⟨w.heap.size, 3, none⟩ (.slice A ps.length cc)).heap[w.heap.size]? = some (.cells #[.int .i64 code, .bool fd, .string vl, .slice A ps.length cc, .slice hA hs.length hc, .int .u64 ep] 50 (0, 0)) := by
    have := heap_setCell_same _ (w.heap.size) 3 _ _ (.slice A ps.length cc) R0
    exact this
  have S1 : (w1.setCell ⟨w.heap.size, 3, none⟩ (.slice A ps.length cc)).heap[w.heap.size + 1]? = _ := (Below.heap_setCell _ _ _ _ (by simp)).trans R1
  have RS := hid R0
  have RT := hid R1
  have SS := hid S0
  have ST := hid S1
  clear R0 R1 S0 S1 hb1
  go_wp2_with fail
  refine (cloneBit hs hA hc _ ?_ H.out.hcap H.out.hmax HH.out).mono ?_
  · exact (H.out.harr.below (by repeat (first | exact Below.refl _ _ | assumption | refine Below.drew ?_ | refine below_drewN ?_ _ | refine Below.alloc ?_ (by first | omega | (simp; done) | (simp; omega)) _ | refine Below.setCell ?_ (by first | omega | (simp; done) | (simp; omega)) _))).more (by simp only [World.size_setCell]; omega)
  rintro e w2 ⟨A2, cc2, rfl, -, hb2⟩
  have hz2 := hb2.size
  simp only [World.size_setCell] at hz2
  have T0 := (hb2.block w.heap.size (by simp only [World.size_setCell]; omega)).trans SS.out
  have T1 := (hb2.block (w.heap.size + 1) (by simp only [World.size_setCell]; omega)).trans ST.out
  have bw2 : Below w.heap.size w w2 := Below.trans (bw1.setCell (by show w.heap.size ≤ w.heap.size; omega) _) (hb2.mono (by simp only [World.size_setCell]; omega))
  have x0 := cell_of_row w2 _ 0 _ _ _ T0
  have x1 := cell_of_row w2 _ 1 _ _ _ T0
  have x2 := cell_of_row w2 _ 2 _ _ _ T0
  have x3 := cell_of_row w2 _ 3 _ _ _ T0
  have x4 := cell_of_row w2 _ 4 _ _ _ T0
  have x5 := cell_of_row w2 _ 5 _ _ _ T0
  have e4 := frozen_of_row w2 _ 4 _ _ T0
  have y0 := cell_of_row w2 _ 0 _ _ _ T1
  have y1 := cell_of_row w2 _ 1 _ _ _ T1
  have y2 := cell_of_row w2 _ 2 _ _ _ T1
  have y3 := cell_of_row w2 _ 3 _ _ _ T1
  have y4 := cell_of_row w2 _ 4 _ _ _ T1
  have y5 := cell_of_row w2 _ 5 _ _ _ T1
  have g0 := frozen_of_row w2 _ 0 _ _ T1
  have g1 := frozen_of_row w2 _ 1 _ _ T1
  have g2 := frozen_of_row w2 _ 2 _ _ T1
  have g3 := frozen_of_row w2 _ 3 _ _ T1
  have g4 := frozen_of_row w2 _ 4 _ _ T1
  have g5 := frozen_of_row w2 _ 5 _ _ T1
  have hl1 : w.heap.size + 1 < w2.heap.size := by omega
  have hl2 : w.heap.size < w2.heap.size := by omega
  clear hb2 T0 T1 bw1 c3 c4 f3
  go_wp2_with fail
  refine bodyPost_ret (v := .agg #[.int .i64 code, .bool fd, .string vl, .slice A ps.length cc, .slice A2 hs.length cc2, .int .u64 ep]) (by simp [results, Tryz.results73, go_sem, y0, y1, y2, y3, y4, y5]) rfl ⟨A, ps.length, cc, A2, hs.length, cc2, rfl, ?_⟩
  exact (by repeat (first | with_reducible exact Below.refl _ _ | with_reducible assumption | with_reducible refine Below.drew ?_ | with_reducible refine below_drewN ?_ _ | with_reducible refine Below.alloc ?_ (by first | omega | (simp; done) | (simp; omega)) _ | with_reducible refine Below.setCell ?_ (by first | omega | (simp; done) | (simp; omega)) _))
end Go.Proofs.YtamcehfcjcmpmaaGreatDoor
