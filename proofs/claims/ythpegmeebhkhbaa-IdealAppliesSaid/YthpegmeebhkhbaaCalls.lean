/- Calls copied and compared: slices.Clone at calls, fuseelaw0.CopyCall, fuseelaw0.SameCall. -/
import Derived.Test.YthpegmeebhkhbaaIdl2
import Derived.Test.YthpegmeebhkhbaaCopyS
import Derived.Test.YthpegmeebhkhbaaRef1
import Derived.Deep.DeepCutAuto
namespace Go.Proofs.Ythpegmeebhkhbaa
open Go.RowKit

theorem Call0.enc_one (x : Call0) : ∀ u ∈ x.enc, u.oneCell' = true := by
  intro u hu
  simp only [Call0.enc, List.mem_cons, List.not_mem_nil, or_false] at hu
  rcases hu with rfl | rfl | rfl | rfl | rfl <;> rfl
theorem info_call : (Try.prog.info? 50).map (fun i => (i.zero, i.size, i.bytes)) = some (some (.agg #[.int .i64 0, .string ByteArray.empty, .string ByteArray.empty, .string ByteArray.empty, .slice none 0 0]), 5, 80) := by kernel_rfl
theorem app_call {ops : Array Oper} {rest : List Oper} {o : Oper} {a : Act} {Q : Exit → Act → World → Prop} (w : World) (hgd : o.guard = none) (s x : Operand)
    (ho : o.op = .call { callee := .builtin .append, args := #[s, x], argTypes := #[48, 48] }) {lo : Nat} {A : Option Addr} {c : Nat} {l : List Call0} (hs : a.eval s = .slice A l.length c) (own : Own Call0.enc 50 5 w lo A c l)
    {B : Nat} {A2 : Option Addr} {m : List Call0} (c2 : Nat) (hx : a.eval x = .slice A2 m.length c2) (arr : Arr Call0.enc 5 w B A2 m) (hb : l.length + m.length ≤ 1000000) (hlo : lo ≤ w.heap.size)
    (h : ∀ A' c' w', Own Call0.enc 50 5 w' lo A' c' (l ++ m) → w.grownBy w' (rowOf A c) → (A' = A ∧ c' = c ∨ ∃ g, A' = some ⟨g, 0, none⟩ ∧ w.heap.size ≤ g) → wpList Try.prog ops Q rest (a.put o.dst (.slice A' (l.length + m.length) c')) w') :
    wpList Try.prog ops Q (o :: rest) a w := by
  obtain ⟨i0, hi, hz0, hz1, hz2⟩ := info_parts info_call
  exact wpList_append_Own w hgd s x 48 ho i0 _ 80 Try.underlying48 hi hz0 hz1 hz2 rfl (by decide) Call0.enc_len Call0.enc_one hs own c2 hx arr (by unfold maxLen; omega) (by omega) hlo h
set_option maxHeartbeats 1000000 in
theorem cloneCall (l : List Call0) (A : Option Addr) (c : Nat) (w : World) (hA : Arr Call0.enc 5 w w.heap.size A l) (hc : l.length ≤ c) (_hm : c ≤ 9223372036854775807) (hb : l.length ≤ 1000000) :
    Calls Try.prog 67 #[.slice A l.length c] w (Gives Call0.enc 50 5 l w) := by
  have HB := hid hb
  clear hb
  have hnil := fun W : World => Lib.run_eql_slice_nil (P := Try.prog) W 48 50 A l.length c 0 0 Try.underlying48
  cases A with
  | none =>
    go_enter Try.func67, Try.ntmps67
    go_wp2
    go_ret
    have hl : l = [] := by
      rcases hA with h | ⟨b, off, h, _⟩
      · exact h
      · cases h
    subst hl
    exact ⟨none, 0, rfl, Own.none_, Below.refl _ _⟩
  | some a =>
    go_enter Try.func67, Try.ntmps67
    go_wp2_with (at_builtin; refine app_call (l := []) (m := l) _ rfl (.tmp 5) (.tmp 6) rfl rfl (Own.zero (lo := w.heap.size)) c rfl (hA.below ((Below.refl _ w).alloc (Nat.le_refl _) _)) (by simpa using HB.out) (by simp) ?_; intro A' c' w' hown hgr hloc)
    go_ret
    refine ⟨A', c', by simp, by simpa using hown, ((Below.refl _ w).alloc (Nat.le_refl _) _).grown hgr (by simp) (fun k hk => ?_)⟩
    simp [rowOf] at hk
/-- a call as a result, its group in memory of the call's own -/
def GivesCall (c : Call0) (g : List Call0) (w : World) (e : Ending) (w' : World) : Prop :=
  ∃ A' c', e = .returned (.agg #[.int .i64 c.kind, .string c.key, .string c.val, .string c.to, .slice A' g.length c']) ∧ Own Call0.enc 50 5 w' w.heap.size A' c' g ∧ Below w.heap.size w w'
theorem loc_up' {A : Option Addr} {c B B' : Nat} (h : A = none ∧ c = 0 ∨ ∃ g, A = some ⟨g, 0, none⟩ ∧ B ≤ g) (hB : B' ≤ B) : A = none ∧ c = 0 ∨ ∃ g, A = some ⟨g, 0, none⟩ ∧ B' ≤ g := by
  rcases h with h | ⟨g, h1, h2⟩
  · exact .inl h
  · exact .inr ⟨g, h1, by omega⟩
set_option maxHeartbeats 2000000 in
set_option maxRecDepth 100000 in
theorem copyCall_any (c : Call0) (g : List Call0) (w : World) (hc : CallIn w w.heap.size c g) (hb : g.length ≤ 1000000) :
    Calls Try.prog 41 #[.agg #[.int .i64 c.kind, .string c.key, .string c.val, .string c.to, .slice c.gA c.gn c.gc]] w (GivesCall c g w) := by
  obtain ⟨kind, key, val, to', gA, gn, gc⟩ := c
  obtain rfl : gn = g.length := hc.len
  have HC := hid hc.arr
  have HB := hid hb
  clear hb hc
  go_enter Try.func41, Try.ntmps41
  go_wp2_with (at_builtin; refine app_call (l := []) (m := g) _ rfl (.const (.slice none 0 0)) (.tmp 4) rfl rfl (Own.none_ (lo := w.heap.size)) gc rfl (HC.out.below (show Below w.heap.size w _ from (by repeat (first | exact Below.refl _ _ | assumption | refine Below.drew ?_ | refine below_drewN ?_ _ | refine Below.alloc ?_ (by first | omega | (simp; done) | (simp; omega)) _ | refine Below.setCell ?_ (by first | omega | (simp; done) | (simp; omega)) _)))) (by simpa using HB.out) (by simp; omega) ?_; intro A' c' w' hown hgr hloc; have hsz := hgr.size; simp only [World.size_alloc] at hsz; have hbw : Below w.heap.size w w' := belowG hgr (by repeat (first | exact Below.refl _ _ | assumption | refine Below.drew ?_ | refine below_drewN ?_ _ | refine Below.alloc ?_ (by first | omega | (simp; done) | (simp; omega)) _ | refine Below.setCell ?_ (by first | omega | (simp; done) | (simp; omega)) _)); have BX : w'.heap[w.heap.size]? = some (.cells #[.int .i64 kind, .string key, .string val, .string to', .slice gA g.length gc] 50 (0, 0)) := (hgr.block _ (by simp; omega) (by simp [rowOf])).trans (by rw [heap_alloc_if, if_neg (by simp), heap_alloc_if, if_pos rfl]); have BY : w'.heap[w.heap.size + 1]? = some (.cells #[.int .i64 0, .string ByteArray.empty, .string ByteArray.empty, .string ByteArray.empty, .slice none 0 0] 50 (0, 0)) := (hgr.block _ (by simp) (by simp [rowOf])).trans (by rw [heap_alloc_if, if_pos (by simp)]; rfl); have x0 := cell_of_row w' _ 0 _ _ _ BX; have x1 := cell_of_row w' _ 1 _ _ _ BX; have x2 := cell_of_row w' _ 2 _ _ _ BX; have x3 := cell_of_row w' _ 3 _ _ _ BX; have x4 := cell_of_row w' _ 4 _ _ _ BX; have f4 := frozen_of_row w' _ 4 _ _ BX; have y0 := cell_of_row w' _ 0 _ _ _ BY; have y1 := cell_of_row w' _ 1 _ _ _ BY; have y2 := cell_of_row w' _ 2 _ _ _ BY; have y3 := cell_of_row w' _ 3 _ _ _ BY; have y4 := cell_of_row w' _ 4 _ _ _ BY; have g0 := frozen_of_row w' _ 0 _ _ BY; have g1 := frozen_of_row w' _ 1 _ _ BY; have g2 := frozen_of_row w' _ 2 _ _ BY; have g3 := frozen_of_row w' _ 3 _ _ BY; have g4 := frozen_of_row w' _ 4 _ _ BY; have hl1 : w.heap.size < w'.heap.size := (by omega); have hl2 : w.heap.size + 1 < w'.heap.size := (by omega))
  have hO := hown.up (loc_up' hloc (B' := w.heap.size + 2) (by simp))
  rw [List.nil_append] at hO
  refine bodyPost_ret (v := .agg #[.int .i64 kind, .string key, .string val, .string to', .slice A' g.length c']) (by simp [results, Try.results41, go_sem, y0, y1, y2, y3, y4]) rfl ⟨A', c', rfl, ?_, ?_⟩
  case refine_2 => exact (by repeat (first | with_reducible exact Below.refl _ _ | with_reducible assumption | with_reducible refine Below.drew ?_ | with_reducible refine below_drewN ?_ _ | with_reducible refine Below.alloc ?_ (by first | omega | (simp; done) | (simp; omega)) _ | with_reducible refine Below.setCell ?_ (by first | omega | (simp; done) | (simp; omega)) _))
  refine Own.lower (lo := w.heap.size + 2) ?_ (by omega)
  repeat (first | with_reducible exact hO | with_reducible refine Own.setCell ?_ (by first | (show w.heap.size < w.heap.size + 2; omega) | (show w.heap.size + 1 < w.heap.size + 2; omega)) _)
/-- alike but for where the group lies -/
structure CSim (x y : Call0) : Prop where
  kind : x.kind = y.kind
  key : x.key = y.key
  val : x.val = y.val
  to' : x.to = y.to
  gn : x.gn = y.gn
theorem CSim.refl (x : Call0) : CSim x x := ⟨rfl, rfl, rfl, rfl, rfl⟩
def CallVars (wr wx : World) (x y : Call0) (v4 v5 : Value) : Prop :=
  ∃ p q, v4 = .pointer (some ⟨p, 0, none⟩) ∧ v5 = .pointer (some ⟨q, 0, none⟩) ∧ Below wr.heap.size wr wx ∧
    (wx.cell? ⟨p, 0, none⟩ = some (.int .i64 x.kind) ∧ wx.cell? ⟨p, 1, none⟩ = some (.string x.key) ∧ wx.cell? ⟨p, 2, none⟩ = some (.string x.val) ∧ wx.cell? ⟨p, 3, none⟩ = some (.string x.to) ∧ wx.cell? ⟨p, 4, none⟩ = some (.slice x.gA x.gn x.gc)) ∧
    (wx.cell? ⟨q, 0, none⟩ = some (.int .i64 y.kind) ∧ wx.cell? ⟨q, 1, none⟩ = some (.string y.key) ∧ wx.cell? ⟨q, 2, none⟩ = some (.string y.val) ∧ wx.cell? ⟨q, 3, none⟩ = some (.string y.to) ∧ wx.cell? ⟨q, 4, none⟩ = some (.slice y.gA y.gn y.gc))
set_option maxHeartbeats 800000 in
set_option maxRecDepth 100000 in
theorem same_call (kind : Int) (key val to' : ByteArray) (g h : List Call0) (A : Option Addr) (c : Nat) (B : Option Addr) (d : Nat) (w : World) (hA : Arr Call0.enc 5 w w.heap.size A g) (hB : Arr Call0.enc 5 w w.heap.size B h) (hc : g.length ≤ c) (hm : c ≤ 9223372036854775807)
    (hlen : g.length = h.length) (hsim : ∀ i (h1 : i < g.length) (h2 : i < h.length), CSim g[i] h[i]) :
    Calls Try.prog 66 #[.agg #[.int .i64 kind, .string key, .string val, .string to', .slice A g.length c], .agg #[.int .i64 kind, .string key, .string val, .string to', .slice B h.length d]] w fun e w' => e = .returned (.bool true) ∧ Below w.heap.size w w' := by
  have HA := hid hA
  have HB := hid hB
  have HS := hid hsim
  have HL := hid hlen
  have e1 : (key.toList == key.toList) = true := by simp
  have e2 : (val.toList == val.toList) = true := by simp
  have e3 : (to'.toList == to'.toList) = true := by simp
  have e4 : (((g.length : Nat) : Int) != ((h.length : Nat) : Int)) = false := by simp [hlen]
  clear hA hB hsim hlen
  go_enter Try.func66, Try.ntmps66
  go_wp2_with fail
  go_loopw [5] (fun vi wr => ∃ k : Nat, k ≤ g.length ∧ vi = .int .i64 k ∧ Below (w.heap.size + 2) ((w.alloc (.cells #[.int .i64 kind, .string key, .string val, .string to', .slice A g.length c] 50)).alloc (.cells #[.int .i64 kind, .string key, .string val, .string to', .slice B h.length d] 50)) wr) (fun vi _ => g.length - (intOf vi).toNat)
  case atStart => exact ⟨0, Nat.zero_le _, rfl, Below.refl _ _⟩
  case round =>
    obtain ⟨k, hkl, rfl, hb⟩ := hrel
    have hw : Below w.heap.size w _ := Below.trans (by repeat (first | exact Below.refl _ _ | assumption | refine Below.drew ?_ | refine below_drewN ?_ _ | refine Below.alloc ?_ (by first | omega | (simp; done) | (simp; omega)) _ | refine Below.setCell ?_ (by first | omega | (simp; done) | (simp; omega)) _)) (hb.mono (show w.heap.size ≤ _ from (by first | omega | (simp; done) | (simp; omega))))
    have s4 := (hb.cell (p := ⟨w.heap.size, 4, none⟩) (by simp)).trans (show _ = some (Value.slice A g.length c) from (by simp [go_sem]))
    have t4 := (hb.cell (p := ⟨w.heap.size + 1, 4, none⟩) (by simp)).trans (show _ = some (Value.slice B h.length d) from (by simp [go_sem]))
    by_cases hlt : k < g.length
    · have hlt' : k < h.length := by have := HL.out; omega
      obtain ⟨b, off, hA1, hB1, k0, k1, k2, k3, k4⟩ := (HA.out.below hw).call0 hlt
      obtain ⟨b', off', hA2, hB2, d0, d1, d2, d3, d4⟩ := (HB.out.below hw).call0 hlt'
      subst hA1 hA2
      have hsz := hw.size
      have hsb := hb.size
      simp only [World.size_alloc] at hsb
      have hl1 : w.heap.size < wr.heap.size := by omega
      have hl2 : w.heap.size + 1 < wr.heap.size := by omega
      have hbr : b < wr.heap.size := by omega
      have hbr' : b' < wr.heap.size := by omega
      have z0 : (0 : Int) ≤ (k : Int) := by omega
      have z1 : (k : Int) < (g.length : Int) := by omega
      have z2 : (k : Int) < (h.length : Int) := by omega
      have HW := hid hw
      have HBB := hid hb
      clear hw hb
      go_upto_region 6 with fail
      go_cut [6, 7] (fun v6 v7 wx => CallVars wr wx g[k] h[k] v6 v7)
      case first =>
        go_region
        all_goals
          go_wp2_with fail
          go_meet
          refine ⟨_, _, rfl, rfl, (by repeat (first | exact Below.refl _ _ | assumption | refine Below.drew ?_ | refine below_drewN ?_ _ | refine Below.alloc ?_ (by first | omega | (simp; done) | (simp; omega)) _ | refine Below.setCell ?_ (by first | omega | (simp; done) | (simp; omega)) _)), ⟨?_, ?_, ?_, ?_, ?_⟩, ⟨?_, ?_, ?_, ?_, ?_⟩⟩
          all_goals simp [go_sem]
      case rest =>
        obtain ⟨p, q, rfl, rfl, hbx, ⟨p0, p1, p2, p3, p4⟩, ⟨q0, q1, q2, q3, q4⟩⟩ := hcut
        have hS := HS.out k hlt hlt'
        rw [← hS.kind] at q0
        rw [← hS.key] at q1
        rw [← hS.val] at q2
        rw [← hS.to'] at q3
        rw [← hS.gn] at q4
        have u1 : (g[k].key.toList == g[k].key.toList) = true := by simp
        have u2 : (g[k].val.toList == g[k].val.toList) = true := by simp
        have u3 : (g[k].to.toList == g[k].to.toList) = true := by simp
        have HBX := hid (HBB.out.trans (hbx.mono (by omega)))
        clear hbx hS k0 k1 k2 k3 k4 d0 d1 d2 d3 d4
        go_wp2_with fail
        exact ⟨⟨k + 1, by omega, by go_num, HBX.out⟩, by simp [intOf]; omega⟩
    · go_wp2_with fail
      go_ret
      exact ⟨rfl, hw⟩
end Go.Proofs.Ythpegmeebhkhbaa
