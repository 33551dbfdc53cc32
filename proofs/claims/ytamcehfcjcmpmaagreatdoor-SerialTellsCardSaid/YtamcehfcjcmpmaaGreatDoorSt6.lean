/- slices.Equal at bools; serial.answered. -/
import Derived.Test.YtamcehfcjcmpmaaGreatDoorSt3
/- Those that serial goes through: story.some at the closure of story.Points; story.Points. -/
namespace Go.Proofs.YtamcehfcjcmpmaaGreatDoor
open Go.RowKit

/-- all that a story has in memory -/
def StIn (w : World) (B : Nat) (s : Story) : Prop := ∃ d, Deep w B d s.c ∧ ∃ ps hs, AnsIn w B s ps hs ∧ ps.length ≤ 1000000 ∧ hs.length ≤ 1000000
theorem StIn.below {w w' : World} {B : Nat} {s : Story} (h : StIn w B s) (hb : Below B w w') : StIn w' B s := by
  obtain ⟨d, h1, ps, hs, h2, h3, h4⟩ := h
  exact ⟨d, h1.below hb, ps, hs, h2.below hb, h3, h4⟩
theorem StIn.more {w : World} {B B' : Nat} {s : Story} (h : StIn w B s) (hB : B ≤ B') : StIn w B' s := by
  obtain ⟨d, h1, ps, hs, h2, h3, h4⟩ := h
  exact ⟨d, h1.more hB, ps, hs, h2.more hB, h3, h4⟩
theorem StIn.up {w w' : World} {s : Story} (h : StIn w w.heap.size s) (hb : Below w.heap.size w w') : StIn w' w'.heap.size s := (h.below hb).more hb.size
theorem fcSt {w : World} {s : Story} (h : StIn w w.heap.size s) : Calls Tryz.prog 72 #[.agg #[.int .i64 s.c.kind, .string s.c.key, .string s.c.val, .string s.c.to, .slice s.c.gA s.c.gn s.c.gc]] w (GivesFC w) := by
  obtain ⟨d, h1, -⟩ := h
  exact framesCall_any d s.c w h1
theorem faSt {w : World} {s : Story} (h : StIn w w.heap.size s) : Calls Tryz.prog 73 #[.agg #[.int .i64 s.code, .bool s.fd, .string s.vl, .slice s.pA s.pn s.pc, .slice s.hA s.hn s.hc, .int .u64 s.ep]] w (GivesFA s w) := by
  obtain ⟨d, -, ps, hs, h2, h3, h4⟩ := h
  exact framesAnswer_any s ps hs w h2 h3 h4
theorem app_story {ops : Array Oper} {rest : List Oper} {o : Oper} {a : Act} {Q : Exit → Act → World → Prop} (w : World) (hgd : o.guard = none) (s x : Operand)
    (ho : o.op = .call { callee := .builtin .append, args := #[s, x], argTypes := #[26, 26] }) {lo : Nat} {A : Option Addr} {c : Nat} {l : List Story} (hs : a.eval s = .slice A l.length c) (own : Own Story.enc 52 14 w lo A c l)
    {B : Nat} {A2 : Option Addr} {m : List Story} (c2 : Nat) (hx : a.eval x = .slice A2 m.length c2) (arr : Arr Story.enc 14 w B A2 m) (hb : l.length + m.length ≤ 1000000) (hlo : lo ≤ w.heap.size)
    (h : ∀ A' c' w', Own Story.enc 52 14 w' lo A' c' (l ++ m) → w.grownBy w' (rowOf A c) → (A' = A ∧ c' = c ∨ ∃ g, A' = some ⟨g, 0, none⟩ ∧ w.heap.size ≤ g) → wpList Tryz.prog ops Q rest (a.put o.dst (.slice A' (l.length + m.length) c')) w') :
    wpList Tryz.prog ops Q (o :: rest) a w := by
  obtain ⟨i0, hi, hz0, hz1, hz2⟩ := info_parts info_story
  exact wpList_append_Own w hgd s x 26 ho i0 _ 192 Tryz.underlying26 hi hz0 hz1 hz2 rfl (by decide) Story.enc_len Story.enc_one hs own c2 hx arr (by unfold maxLen; omega) (by omega) hlo h
theorem arr_oneStory {w : World} {vb : Nat} {x : Story} (hv : w.heap[vb]? = some (.cells x.enc.toArray 52 (0, 0))) : Arr Story.enc 14 w w.heap.size (some ⟨vb, 0, none⟩) [x] := by
  refine Arr.of_cells Story.enc_len ?_ fun j u hu => ?_
  · exact lt_of_heap hv
  · rw [Nat.zero_add, cell_of_row w vb j _ _ _ hv]
    simpa using hu
theorem row_story {w : World} {p : Nat} {s : Story} (h : w.heap[p]? = some (.cells s.enc.toArray 52 (0, 0))) :
    w.cell? ⟨p, 1, none⟩ = some (.int .i64 s.c.kind) ∧ w.cell? ⟨p, 2, none⟩ = some (.string s.c.key) ∧ w.cell? ⟨p, 3, none⟩ = some (.string s.c.val) ∧ w.cell? ⟨p, 4, none⟩ = some (.string s.c.to) ∧ w.cell? ⟨p, 5, none⟩ = some (.slice s.c.gA s.c.gn s.c.gc) ∧ w.cell? ⟨p, 6, none⟩ = some (.int .i64 s.code) ∧ w.cell? ⟨p, 7, none⟩ = some (.bool s.fd) ∧ w.cell? ⟨p, 8, none⟩ = some (.string s.vl) ∧ w.cell? ⟨p, 9, none⟩ = some (.slice s.pA s.pn s.pc) ∧ w.cell? ⟨p, 10, none⟩ = some (.slice s.hA s.hn s.hc) ∧ w.cell? ⟨p, 11, none⟩ = some (.int .u64 s.ep) ∧ w.cell? ⟨p, 0, none⟩ = some (.int .i64 s.th) ∧ w.cell? ⟨p, 12, none⟩ = some (.int .i64 s.bg) ∧ w.cell? ⟨p, 13, none⟩ = some (.int .i64 s.en) :=
  ⟨cell_of_row w p 1 _ _ _ h, cell_of_row w p 2 _ _ _ h, cell_of_row w p 3 _ _ _ h, cell_of_row w p 4 _ _ _ h, cell_of_row w p 5 _ _ _ h, cell_of_row w p 6 _ _ _ h, cell_of_row w p 7 _ _ _ h, cell_of_row w p 8 _ _ _ h, cell_of_row w p 9 _ _ _ h, cell_of_row w p 10 _ _ _ h, cell_of_row w p 11 _ _ _ h, cell_of_row w p 0 _ _ _ h, cell_of_row w p 12 _ _ _ h, cell_of_row w p 13 _ _ _ h⟩
theorem row_put {W : World} {p : Nat} {s : Story} (h0 : W.heap[p]? = some (.cells s.enc.toArray 52 (0, 0))) (y : Call0) (PA : Option Addr) (pn pc : Nat) (HA : Option Addr) (hn hc : Nat) :
    (((((((((((W.setCell ⟨p, 1, none⟩ (.int .i64 y.kind)).setCell ⟨p, 2, none⟩ (.string y.key)).setCell ⟨p, 3, none⟩ (.string y.val)).setCell ⟨p, 4, none⟩ (.string y.to)).setCell ⟨p, 5, none⟩ (.slice y.gA y.gn y.gc)).setCell ⟨p, 6, none⟩ (.int .i64 s.code)).setCell ⟨p, 7, none⟩ (.bool s.fd)).setCell ⟨p, 8, none⟩ (.string s.vl)).setCell ⟨p, 9, none⟩ (.slice PA pn pc)).setCell ⟨p, 10, none⟩ (.slice HA hn hc)).setCell ⟨p, 11, none⟩ (.int .u64 s.ep)).heap[p]? = some (.cells ({ s with c := y, pA := PA, pn := pn, pc := pc, hA := HA, hn := hn, hc := hc } : Story).enc.toArray 52 (0, 0)) := by
  replace h0 : W.heap[p]? = some (.cells #[.int .i64 s.th, .int .i64 s.c.kind, .string s.c.key, .string s.c.val, .string s.c.to, .slice s.c.gA s.c.gn s.c.gc, .int .i64 s.code, .bool s.fd, .string s.vl, .slice s.pA s.pn s.pc, .slice s.hA s.hn s.hc, .int .u64 s.ep, .int .i64 s.bg, .int .i64 s.en] 52 (0, 0)) := h0
  have h1 : (W.setCell ⟨p, 1, none⟩ (.int .i64 y.kind)).heap[p]? = some (.cells #[.int .i64 s.th, .int .i64 y.kind, .string s.c.key, .string s.c.val, .string s.c.to, .slice s.c.gA s.c.gn s.c.gc, .int .i64 s.code, .bool s.fd, .string s.vl, .slice s.pA s.pn s.pc, .slice s.hA s.hn s.hc, .int .u64 s.ep, .int .i64 s.bg, .int .i64 s.en] 52 (0, 0)) := heap_setCell_same _ p 1 _ _ (.int .i64 y.kind) h0
  have h2 : ((W.setCell ⟨p, 1, none⟩ (.int .i64 y.kind)).setCell ⟨p, 2, none⟩ (.string y.key)).heap[p]? = some (.cells #[.int .i64 s.th, .int .i64 y.kind, .string y.key, .string s.c.val, .string s.c.to, .slice s.c.gA s.c.gn s.c.gc, .int .i64 s.code, .bool s.fd, .string s.vl, .slice s.pA s.pn s.pc, .slice s.hA s.hn s.hc, .int .u64 s.ep, .int .i64 s.bg, .int .i64 s.en] 52 (0, 0)) := heap_setCell_same _ p 2 _ _ (.string y.key) h1
  have h3 : (((W.setCell ⟨p, 1, none⟩ (.int .i64 y.kind)).setCell ⟨p, 2, none⟩ (.string y.key)).setCell ⟨p, 3, none⟩ (.string y.val)).heap[p]? = some (.cells #[.int .i64 s.th, .int .i64 y.kind, .string y.key, .string y.val, .string s.c.to, .slice s.c.gA s.c.gn s.c.gc, .int .i64 s.code, .bool s.fd, .string s.vl, .slice s.pA s.pn s.pc, .slice s.hA s.hn s.hc, .int .u64 s.ep, .int .i64 s.bg, .int .i64 s.en] 52 (0, 0)) := heap_setCell_same _ p 3 _ _ (.string y.val) h2
  have h4 : ((((W.setCell ⟨p, 1, none⟩ (.int .i64 y.kind)).setCell ⟨p, 2, none⟩ (.string y.key)).setCell ⟨p, 3, none⟩ (.string y.val)).setCell ⟨p, 4, none⟩ (.string y.to)).heap[p]? = some (.cells #[.int .i64 s.th, .int .i64 y.kind, .string y.key, .string y.val, .string y.to, .slice s.c.gA s.c.gn s.c.gc, .int .i64 s.code, .bool s.fd, .string s.vl, .slice s.pA s.pn s.pc, .slice s.hA s.hn s.hc, .int .u64 s.ep, .int .i64 s.bg, .int .i64 s.en] 52 (0, 0)) := heap_setCell_same _ p 4 _ _ (.string y.to) h3
  have h5 : (((((W.setCell ⟨p, 1, none⟩ (.int .i64 y.kind)).setCell ⟨p, 2, none⟩ (.string y.key)).setCell ⟨p, 3, none⟩ (.string y.val)).setCell ⟨p, 4, none⟩ (.string y.to)).setCell ⟨p, 5, none⟩ (.slice y.gA y.gn y.gc)).heap[p]? = some (.cells #[.int .i64 s.th, .int .i64 y.kind, .string y.key, .string y.val, .string y.to, .slice y.gA y.gn y.gc, .int .i64 s.code, .bool s.fd, .string s.vl, .slice s.pA s.pn s.pc, .slice s.hA s.hn s.hc, .int .u64 s.ep, .int .i64 s.bg, .int .i64 s.en] 52 (0, 0)) := heap_setCell_same _ p 5 _ _ (.slice y.gA y.gn y.gc) h4
  have h6 : ((((((W.setCell ⟨p, 1, none⟩ (.int .i64 y.kind)).setCell ⟨p, 2, none⟩ (.string y.key)).setCell ⟨p, 3, none⟩ (.string y.val)).setCell ⟨p, 4, none⟩ (.string y.to)).setCell ⟨p, 5, none⟩ (.slice y.gA y.gn y.gc)).setCell ⟨p, 6, none⟩ (.int .i64 s.code)).heap[p]? = some (.cells #[.int .i64 s.th, .int .i64 y.kind, .string y.key, .string y.val, .string y.to, .slice y.gA y.gn y.gc, .int .i64 s.code, .bool s.fd, .string s.vl, .slice s.pA s.pn s.pc, .slice s.hA s.hn s.hc, .int .u64 s.ep, .int .i64 s.bg, .int .i64 s.en] 52 (0, 0)) := heap_setCell_same _ p 6 _ _ (.int .i64 s.code) h5
  have h7 : (((((((W.setCell ⟨p, 1, none⟩ (.int .i64 y.kind)).setCell ⟨p, 2, none⟩ (.string y.key)).setCell ⟨p, 3, none⟩ (.string y.val)).setCell ⟨p, 4, none⟩ (.string y.to)).setCell ⟨p, 5, none⟩ (.slice y.gA y.gn y.gc)).setCell ⟨p, 6, none⟩ (.int .i64 s.code)).setCell ⟨p, 7, none⟩ (.bool s.fd)).heap[p]? = some (.cells #[.int .i64 s.th, .int .i64 y.kind, .string y.key, .string y.val, .string y.to, .slice y.gA y.gn y.gc, .int .i64 s.code, .bool s.fd, .string s.vl, .slice s.pA s.pn s.pc, .slice s.hA s.hn s.hc, .int .u64 s.ep, .int .i64 s.bg, .int .i64 s.en] 52 (0, 0)) := heap_setCell_same _ p 7 _ _ (.bool s.fd) h6
  have h8 : ((((((((W.setCell ⟨p, 1, none⟩ (.int .i64 y.kind)).setCell ⟨p, 2, none⟩ (.string y.key)).setCell ⟨p, 3, none⟩ (.string y.val)).setCell ⟨p, 4, none⟩ (.string y.to)).setCell ⟨p, 5, none⟩ (.slice y.gA y.gn y.gc)).setCell ⟨p, 6, none⟩ (.int .i64 s.code)).setCell ⟨p, 7, none⟩ (.bool s.fd)).setCell ⟨p, 8, none⟩ (.string s.vl)).heap[p]? = some (.cells #[.int .i64 s.th, .int .i64 y.kind, .string y.key, .string y.val, .string y.to, .slice y.gA y.gn y.gc, .int .i64 s.code, .bool s.fd, .string s.vl, .slice s.pA s.pn s.pc, .slice s.hA s.hn s.hc, .int .u64 s.ep, .int .i64 s.bg, .int .i64 s.en] 52 (0, 0)) := heap_setCell_same _ p 8 _ _ (.string s.vl) h7
  have h9 : (((((((((W.setCell ⟨p, 1, none⟩ (.int .i64 y.kind)).setCell ⟨p, 2, none⟩ (.string y.key)).setCell ⟨p, 3, none⟩ (.string y.val)).setCell ⟨p, 4, none⟩ (.string y.to)).setCell ⟨p, 5, none⟩ (.slice y.gA y.gn y.gc)).setCell ⟨p, 6, none⟩ (.int .i64 s.code)).setCell ⟨p, 7, none⟩ (.bool s.fd)).setCell ⟨p, 8, none⟩ (.string s.vl)).setCell ⟨p, 9, none⟩ (.slice PA pn pc)).heap[p]? = some (.cells #[.int .i64 s.th, .int .i64 y.kind, .string y.key, .string y.val, .string y.to, .slice y.gA y.gn y.gc, .int .i64 s.code, .bool s.fd, .string s.vl, .slice PA pn pc, .slice s.hA s.hn s.hc, .int .u64 s.ep, .int .i64 s.bg, .int .i64 s.en] 52 (0, 0)) := heap_setCell_same _ p 9 _ _ (.slice PA pn pc) h8
  have h10 : ((((((((((W.setCell ⟨p, 1, none⟩ (.int .i64 y.kind)).setCell ⟨p, 2, none⟩ (.string y.key)).setCell ⟨p, 3, none⟩ (.string y.val)).setCell ⟨p, 4, none⟩ (.string y.to)).setCell ⟨p, 5, none⟩ (.slice y.gA y.gn y.gc)).setCell ⟨p, 6, none⟩ (.int .i64 s.code)).setCell ⟨p, 7, none⟩ (.bool s.fd)).setCell ⟨p, 8, none⟩ (.string s.vl)).setCell ⟨p, 9, none⟩ (.slice PA pn pc)).setCell ⟨p, 10, none⟩ (.slice HA hn hc)).heap[p]? = some (.cells #[.int .i64 s.th, .int .i64 y.kind, .string y.key, .string y.val, .string y.to, .slice y.gA y.gn y.gc, .int .i64 s.code, .bool s.fd, .string s.vl, .slice PA pn pc, .slice HA hn hc, .int .u64 s.ep, .int .i64 s.bg, .int .i64 s.en] 52 (0, 0)) := heap_setCell_same _ p 10 _ _ (.slice HA hn hc) h9
  have h11 : (((((((((((W.setCell ⟨p, 1, none⟩ (.int .i64 y.kind)).setCell ⟨p, 2, none⟩ (.string y.key)).setCell ⟨p, 3, none⟩ (.string y.val)).setCell ⟨p, 4, none⟩ (.string y.to)).setCell ⟨p, 5, none⟩ (.slice y.gA y.gn y.gc)).setCell ⟨p, 6, none⟩ (.int .i64 s.code)).setCell ⟨p, 7, none⟩ (.bool s.fd)).setCell ⟨p, 8, none⟩ (.string s.vl)).setCell ⟨p, 9, none⟩ (.slice PA pn pc)).setCell ⟨p, 10, none⟩ (.slice HA hn hc)).setCell ⟨p, 11, none⟩ (.int .u64 s.ep)).heap[p]? = some (.cells #[.int .i64 s.th, .int .i64 y.kind, .string y.key, .string y.val, .string y.to, .slice y.gA y.gn y.gc, .int .i64 s.code, .bool s.fd, .string s.vl, .slice PA pn pc, .slice HA hn hc, .int .u64 s.ep, .int .i64 s.bg, .int .i64 s.en] 52 (0, 0)) := heap_setCell_same _ p 11 _ _ (.int .u64 s.ep) h10
  exact h11
theorem ownBelow {α : Type} {enc : α → List Value} {e : TypeId} {k : Nat} {W W' w : World} {lo : Nat} {A : Option Addr} {c : Nat} {l : List α} (h : Own enc e k W lo A c l) (hg : W.grownBy W' (rowOf A c)) (hb : Below lo w W) (hlo : lo ≤ W.heap.size) : Below lo w W' := by
  refine hb.grown hg hlo (fun q hq => ?_)
  unfold rowOf at hq
  split at hq
  · cases hq
  · rename_i hc0
    rcases h.lt with h0 | ⟨b, off, hA, hl, -⟩
    · exact absurd h0 hc0
    · subst hA
      cases hq
      exact hl
def countK (l : List Story) : Nat := (l.filter fun s => kindB s.c.kind).length
theorem countK_succ {l : List Story} {k : Nat} (hk : k < l.length) : countK (l.take (k + 1)) = countK (l.take k) + (if kindB l[k].c.kind = true then 1 else 0) := by
  unfold countK
  rw [List.take_succ_eq_append_getElem hk, List.filter_append, List.length_append]
  by_cases h : kindB l[k].c.kind = true <;> simp [h]
theorem countK_le (l : List Story) : countK l ≤ l.length := List.length_filter_le _ _
def GivesN (n : Nat) (w : World) (e : Ending) (w' : World) : Prop := ∃ A c, e = .returned (.slice A n c) ∧ Below w.heap.size w w'
set_option maxHeartbeats 8000000 in
set_option maxRecDepth 100000 in
theorem some_any (l : List Story) (A : Option Addr) (c : Nat) (w : World) (hA : Arr Story.enc 14 w w.heap.size A l) (hS : ∀ s ∈ l, StIn w w.heap.size s) (hc : l.length ≤ c) (hm : c ≤ 9223372036854775807) (hl : l.length ≤ 100000) :
    Calls Tryz.prog 54 #[.slice A l.length c, .func (.func 55) #[] #[]] w (GivesN (countK l) w) := by
  have HA := hid hA
  have HS := hid hS
  have HL := hid hl
  clear hA hS hl
  go_enter Tryz.func54, Tryz.ntmps54
  go_wp2_with fail
  go_loopw [5, 10] (fun v5 v10 wr => ∃ (k : Nat) (M : List Story) (A' : Option Addr) (c' : Nat), k ≤ l.length ∧ v10 = .int .i64 k ∧ v5 = .slice A' M.length c' ∧ Own Story.enc 52 14 wr w.heap.size A' c' M ∧ M.length = countK (l.take k) ∧ Below w.heap.size w wr) (fun _ v10 _ => l.length - (intOf v10).toNat)
  case atStart => exact ⟨0, [], none, 0, Nat.zero_le _, rfl, rfl, Own.none_, rfl, Below.refl _ _⟩
  case round =>
    obtain ⟨k, M, A', c', hkl, rfl, rfl, hO, hM, hb⟩ := hrel
    have hsz := hb.size
    have HO := hid hO
    have HM := hid hM
    clear hO hM
    by_cases hlt : k < l.length
    · obtain ⟨b, off, rfl, hB, hcells⟩ := (HA.out.below hb).story hlt
      obtain ⟨c0, c1, c2, c3, c4, c5, c6, c7, c8, c9, c10, c11, c12, c13⟩ := hcells
      have hbr : b < wr.heap.size := by omega
      have HSK := hid ((HS.out l[k] (List.getElem_mem hlt)).up hb)
      by_cases hk : kindB l[k].c.kind = true
      · have hp := points1_any l[k]
        unfold storyV at hp
        rw [hk] at hp
        go_upto_region 6 with (go_at_call 55; refine (hp _).mono ?_; rintro e w1 ⟨rfl, hb1⟩)
        have sz1 := hb1.size
        simp only [World.size_alloc] at sz1
        have RL := hid (show w1.heap[wr.heap.size]? = some (.cells l[k].enc.toArray 52 (0, 0)) from (hb1.block _ (by simp)).trans (by rw [heap_alloc_if, if_pos rfl]; rfl))
        have bw1 : Below w.heap.size w w1 := Below.trans (by repeat (first | exact Below.refl _ _ | assumption | refine Below.drew ?_ | refine below_drewN ?_ _ | refine Below.alloc ?_ (by first | omega | (simp; done) | (simp; omega)) _ | refine Below.setCell ?_ (by first | omega | (simp; done) | (simp; omega)) _)) (hb1.mono (by first | omega | (simp; done) | (simp; omega)))
        have b1 : Below wr.heap.size wr w1 := Below.trans (by repeat (first | exact Below.refl _ _ | assumption | refine Below.drew ?_ | refine below_drewN ?_ _ | refine Below.alloc ?_ (by first | omega | (simp; done) | (simp; omega)) _ | refine Below.setCell ?_ (by first | omega | (simp; done) | (simp; omega)) _)) (hb1.mono (by first | omega | (simp; done) | (simp; omega)))
        have HSL := hid (HSK.out.up b1)
        have hq : wr.heap.size < w1.heap.size := by omega
        obtain ⟨x1, x2, x3, x4, x5, x6, x7, x8, x9, x10, x11, -, -, -⟩ := row_story RL.out
        have T52 : ∀ W, Below w1.heap.size w1 W → Calls Tryz.prog 72 #[.agg #[.int .i64 l[k].c.kind, .string l[k].c.key, .string l[k].c.val, .string l[k].c.to, .slice l[k].c.gA l[k].c.gn l[k].c.gc]] W (GivesFC W) := fun W hW => fcSt (HSL.out.up hW)
        have T53 : ∀ W, Below w1.heap.size w1 W → Calls Tryz.prog 73 #[.agg #[.int .i64 l[k].code, .bool l[k].fd, .string l[k].vl, .slice l[k].pA l[k].pn l[k].pc, .slice l[k].hA l[k].hn l[k].hc, .int .u64 l[k].ep]] W (fun e w' => ∃ PA pn pc HA hn hc, e = .returned (.agg #[.int .i64 l[k].code, .bool l[k].fd, .string l[k].vl, .slice PA pn pc, .slice HA hn hc, .int .u64 l[k].ep]) ∧ Below W.heap.size W w') := fun W hW => faSt (HSL.out.up hW)
        clear hb1 c0 c1 c2 c3 c4 c5 c6 c7 c8 c9 c10 c11 c12 c13 hp
        go_cut [7] (fun v7 wx => v7 = .pointer (some ⟨wr.heap.size, 0, none⟩) ∧ Below wr.heap.size wr wx ∧ ∃ y : Story, wx.heap[wr.heap.size]? = some (.cells y.enc.toArray 52 (0, 0)))
        case first =>
          go_region_with (first | (go_at_call 72; refine (T52 _ ?_).mono ?_; ((repeat (first | with_reducible exact Below.refl _ _ | with_reducible assumption | with_reducible refine Below.drew ?_ | with_reducible refine below_drewN ?_ _))); rintro e wC ⟨y, rfl, hbC⟩; have sC := hbC.size; (try simp only [World.size_drew] at sC); have stC : Below w1.heap.size w1 wC := (by refine Below.trans ?_ (hbC.mono ?_); (repeat (first | with_reducible exact Below.refl _ _ | with_reducible assumption | with_reducible refine Below.drew ?_ | with_reducible refine below_drewN ?_ _)); all_goals (first | exact Nat.le_refl _ | (simp; done) | (simp; omega))); unfold callV; have hqC : wr.heap.size < wC.heap.size := (by omega); have RC := (stC.block wr.heap.size hq).trans RL.out; obtain ⟨x1C, x2C, x3C, x4C, x5C, x6C, x7C, x8C, x9C, x10C, x11C, -, -, -⟩ := row_story RC; have f1C := frozen_of_row wC _ 1 _ _ RC; have f2C := frozen_of_row wC _ 2 _ _ RC; have f3C := frozen_of_row wC _ 3 _ _ RC; have f4C := frozen_of_row wC _ 4 _ _ RC; have f5C := frozen_of_row wC _ 5 _ _ RC; have f6C := frozen_of_row wC _ 6 _ _ RC; have f7C := frozen_of_row wC _ 7 _ _ RC; have f8C := frozen_of_row wC _ 8 _ _ RC; have f9C := frozen_of_row wC _ 9 _ _ RC; have f10C := frozen_of_row wC _ 10 _ _ RC; have f11C := frozen_of_row wC _ 11 _ _ RC) | (go_at_call 73; refine (T53 _ ?_).mono ?_; ((repeat (first | with_reducible exact Below.refl _ _ | with_reducible assumption | with_reducible refine Below.drew ?_ | with_reducible refine below_drewN ?_ _))); rintro e wD ⟨PA, pn, pc, HA', hn, hc', rfl, hbD⟩; have sD := hbD.size; (try simp only [World.size_drew, World.size_alloc] at sD); have stD : Below w1.heap.size w1 wD := (by refine Below.trans ?_ (hbD.mono ?_); (repeat (first | with_reducible exact Below.refl _ _ | with_reducible assumption | with_reducible refine Below.drew ?_ | with_reducible refine below_drewN ?_ _)); all_goals (first | omega | (simp; done) | (simp; omega))); have hqD : wr.heap.size < wD.heap.size := (by omega); have RD := (stD.block wr.heap.size hq).trans RL.out; obtain ⟨x1D, x2D, x3D, x4D, x5D, x6D, x7D, x8D, x9D, x10D, x11D, -, -, -⟩ := row_story RD; have f1D := frozen_of_row wD _ 1 _ _ RD; have f2D := frozen_of_row wD _ 2 _ _ RD; have f3D := frozen_of_row wD _ 3 _ _ RD; have f4D := frozen_of_row wD _ 4 _ _ RD; have f5D := frozen_of_row wD _ 5 _ _ RD; have f6D := frozen_of_row wD _ 6 _ _ RD; have f7D := frozen_of_row wD _ 7 _ _ RD; have f8D := frozen_of_row wD _ 8 _ _ RD; have f9D := frozen_of_row wD _ 9 _ _ RD; have f10D := frozen_of_row wD _ 10 _ _ RD; have f11D := frozen_of_row wD _ 11 _ _ RD))
          all_goals
            have bD : Below wr.heap.size wr wD := b1.trans (stD.mono (by omega))
            have hrow := row_put RD y PA pn pc HA' hn hc'
            have HROW := hid hrow
            clear hrow
            go_wp2_with fail
            go_meet
            exact ⟨rfl, (by repeat (first | with_reducible exact Below.refl _ _ | with_reducible assumption | with_reducible refine Below.drew ?_ | with_reducible refine below_drewN ?_ _ | with_reducible refine Below.alloc ?_ (by first | omega | (simp; done) | (simp; omega)) _ | with_reducible refine Below.setCell ?_ (by first | omega | (simp; done) | (simp; omega)) _)), _, HROW.out⟩
        case rest =>
          obtain ⟨rfl, bc, y, hrow⟩ := hcut
          have HROW := hid hrow
          obtain ⟨q1, q2, q3, q4, q5, q6, q7, q8, q9, q10, q11, q0, q12, q13⟩ := row_story hrow
          have hqc := lt_of_heap hrow
          have bwc := hb.trans (bc.mono hsz)
          have hML : M.length ≤ k := by rw [HM.out]; exact Nat.le_trans (countK_le _) (by rw [List.length_take]; omega)
          have HML := hid hML
          have HOc := hid (HO.out.below bc)
          clear hrow hML bc x1 x2 x3 x4 x5 x6 x7 x8 x9 x10 x11 sz1 hq bw1 b1
          go_wp2_with (at_builtin; refine app_story (l := M) (m := [y]) (A := A') (c := c') (lo := w.heap.size) _ rfl (.tmp 25) (.tmp 27) (by first | rfl | simp [Act.eval]) (by first | rfl | simp [Act.eval]) (HOc.out.alloc _) 1 rfl (arr_oneStory (vb := wc.heap.size) (x := y) (by rw [heap_alloc_if, if_pos (by simp)]; rfl)) (by have := HML.out; have := HL.out; simp; omega) (by first | exact bwc.size | (simp; done) | (simp; have := bwc.size; omega)) ?_; intro A2 c2 w2 hown2 hgr2 hloc2)
          refine ⟨⟨k + 1, M ++ [y], A2, c2, by omega, by go_num, by rw [List.length_append]; rfl, hown2, ?_, ?_⟩, by simp [intOf]; omega⟩
          · rw [List.length_append, countK_succ hlt, if_pos hk, HM.out]; rfl
          · exact ownBelow (HOc.out.alloc _) hgr2 (show Below w.heap.size w _ from (by repeat (first | exact Below.refl _ _ | assumption | refine Below.drew ?_ | refine below_drewN ?_ _ | refine Below.alloc ?_ (by first | omega | (simp; done) | (simp; omega)) _ | refine Below.setCell ?_ (by first | omega | (simp; done) | (simp; omega)) _))) (by simp; have := bwc.size; omega)
      · have hk' : kindB l[k].c.kind = false := by simpa using hk
        have hp := points1_any l[k]
        unfold storyV at hp
        rw [hk'] at hp
        have HM1 : Hid (M.length = countK (l.take (k + 1))) := hid (by rw [countK_succ hlt, if_neg hk, HM.out]; rfl)
        clear HSK hk hk'
        go_wp2_with (go_at_call 55; refine (hp _).mono ?_; rintro e w1 ⟨rfl, hb1⟩)
        have bw1 : Below w.heap.size w w1 := Below.trans (by repeat (first | exact Below.refl _ _ | assumption | refine Below.drew ?_ | refine below_drewN ?_ _ | refine Below.alloc ?_ (by first | omega | (simp; done) | (simp; omega)) _ | refine Below.setCell ?_ (by first | omega | (simp; done) | (simp; omega)) _)) (hb1.mono (by first | omega | (simp; done) | (simp; omega)))
        have st1 : Below wr.heap.size wr w1 := Below.trans (by repeat (first | exact Below.refl _ _ | assumption | refine Below.drew ?_ | refine below_drewN ?_ _ | refine Below.alloc ?_ (by first | omega | (simp; done) | (simp; omega)) _ | refine Below.setCell ?_ (by first | omega | (simp; done) | (simp; omega)) _)) (hb1.mono (by first | omega | (simp; done) | (simp; omega)))
        exact ⟨⟨k + 1, M, A', c', by omega, by go_num, rfl, HO.out.below st1, HM1.out, bw1⟩, by simp [intOf]; omega⟩
    · obtain rfl : k = l.length := by omega
      have hML := HM.out
      rw [List.take_length] at hML
      go_wp2
      go_ret
      exact ⟨A', c', by rw [hML]; rfl, hb⟩
theorem points_any (l : List Story) (A : Option Addr) (c : Nat) (w : World) (hA : Arr Story.enc 14 w w.heap.size A l) (hS : ∀ s ∈ l, StIn w w.heap.size s) (hc : l.length ≤ c) (hm : c ≤ 9223372036854775807) (hl : l.length ≤ 100000) :
    Calls Tryz.prog 45 #[.slice A l.length c] w (GivesN (countK l) w) := by
  have H := hid (some_any l A c w hA hS hc hm hl)
  clear hA hS
  go_enter Tryz.func45, Tryz.ntmps45
  go_wp2_with (go_at_call 54; refine H.out.mono ?_; rintro e w1 ⟨A1, c1, rfl, hb1⟩)
  go_ret
  exact ⟨A1, c1, rfl, hb1⟩
end Go.Proofs.YtamcehfcjcmpmaaGreatDoor
/- serial.counts: is a story one that a row may have? -/
namespace Go.Proofs.YtamcehfcjcmpmaaGreatDoor
open Go.RowKit

def countsB (s : Story) : Bool := kindB s.c.kind && (decide (s.en < 0) || decide (s.code = 0))
set_option maxHeartbeats 4000000 in
set_option maxRecDepth 100000 in
theorem counts_any (s : Story) (w : World) (h : StIn w w.heap.size s) : Calls Tryz.prog 32 #[storyV s] w fun e w' => e = .returned (.bool (countsB s)) ∧ Below w.heap.size w w' := by
  have H := hid h
  clear h
  have T : ∀ W, Below w.heap.size w W → W.heap[w.heap.size + 1]? = some (.cells s.enc.toArray 52 (0, 0)) → w.heap.size ≤ W.heap.size → Calls Tryz.prog 45 #[.slice (some ⟨w.heap.size + 1, 0, none⟩) 1 1] W (GivesN (countK [s]) W) := fun W hb hr hz =>
    points_any [s] _ 1 W (arr_oneStory hr) (fun x hx => by rw [List.mem_singleton] at hx; subst hx; exact H.out.up hb) (by simp) (by decide) (by simp)
  unfold storyV
  by_cases hk : kindB s.c.kind = true
  · have e1 : countK [s] = 1 := by simp [countK, hk]
    rw [e1] at T
    by_cases h1 : s.en < 0
    · have e2 : countsB s = true := by simp [countsB, hk, h1]
      rw [e2]
      clear hk e1 e2
      go_enter Tryz.func32, Tryz.ntmps32
      go_wp2_with (go_at_call 45; refine (T _ (by repeat (first | exact Below.refl _ _ | assumption | refine Below.drew ?_ | refine below_drewN ?_ _ | refine Below.alloc ?_ (by first | omega | (simp; done) | (simp; omega)) _ | refine Below.setCell ?_ (by first | omega | (simp; done) | (simp; omega)) _)) ?_ (by first | omega | (simp; done) | (simp; omega))).mono ?_; (rw [heap_alloc_if, if_pos (by simp)]; rfl); rintro e w1 ⟨A1, c1, rfl, hb1⟩; have x6 : w1.cell? ⟨w.heap.size, 6, none⟩ = some (.int .i64 s.code) := (hb1.cell (p := ⟨w.heap.size, 6, none⟩) (by simp; omega)).trans (by simp [go_sem]); have x13 : w1.cell? ⟨w.heap.size, 13, none⟩ = some (.int .i64 s.en) := (hb1.cell (p := ⟨w.heap.size, 13, none⟩) (by simp; omega)).trans (by simp [go_sem]))
      go_ret
      exact ⟨rfl, (show Below w.heap.size w _ from Below.trans (by repeat (first | exact Below.refl _ _ | assumption | refine Below.drew ?_ | refine below_drewN ?_ _ | refine Below.alloc ?_ (by first | omega | (simp; done) | (simp; omega)) _ | refine Below.setCell ?_ (by first | omega | (simp; done) | (simp; omega)) _)) (hb1.mono (by first | omega | (simp; done) | (simp; omega))))⟩
    · have h1' : 0 ≤ s.en := by omega
      have g1 : decide (s.en < 0) = false := by simpa using h1'
      by_cases h2 : s.code = 0
      · have e2 : countsB s = true := by simp [countsB, hk, h2]
        have g2 : (s.code == 0) = true := by simp [h2]
        rw [e2]
        clear hk e1 e2 h2
        go_enter Tryz.func32, Tryz.ntmps32
        go_wp2_with (go_at_call 45; refine (T _ (by repeat (first | exact Below.refl _ _ | assumption | refine Below.drew ?_ | refine below_drewN ?_ _ | refine Below.alloc ?_ (by first | omega | (simp; done) | (simp; omega)) _ | refine Below.setCell ?_ (by first | omega | (simp; done) | (simp; omega)) _)) ?_ (by first | omega | (simp; done) | (simp; omega))).mono ?_; (rw [heap_alloc_if, if_pos (by simp)]; rfl); rintro e w1 ⟨A1, c1, rfl, hb1⟩; have x6 : w1.cell? ⟨w.heap.size, 6, none⟩ = some (.int .i64 s.code) := (hb1.cell (p := ⟨w.heap.size, 6, none⟩) (by simp; omega)).trans (by simp [go_sem]); have x13 : w1.cell? ⟨w.heap.size, 13, none⟩ = some (.int .i64 s.en) := (hb1.cell (p := ⟨w.heap.size, 13, none⟩) (by simp; omega)).trans (by simp [go_sem]))
        go_ret
        exact ⟨rfl, (show Below w.heap.size w _ from Below.trans (by repeat (first | exact Below.refl _ _ | assumption | refine Below.drew ?_ | refine below_drewN ?_ _ | refine Below.alloc ?_ (by first | omega | (simp; done) | (simp; omega)) _ | refine Below.setCell ?_ (by first | omega | (simp; done) | (simp; omega)) _)) (hb1.mono (by first | omega | (simp; done) | (simp; omega))))⟩

      · have e2 : countsB s = false := by simp [countsB, h1, h2]
        have g2 : (s.code == 0) = false := by simpa using h2
        rw [e2]
        clear hk e1 e2
        go_enter Tryz.func32, Tryz.ntmps32
        go_wp2_with (go_at_call 45; refine (T _ (by repeat (first | exact Below.refl _ _ | assumption | refine Below.drew ?_ | refine below_drewN ?_ _ | refine Below.alloc ?_ (by first | omega | (simp; done) | (simp; omega)) _ | refine Below.setCell ?_ (by first | omega | (simp; done) | (simp; omega)) _)) ?_ (by first | omega | (simp; done) | (simp; omega))).mono ?_; (rw [heap_alloc_if, if_pos (by simp)]; rfl); rintro e w1 ⟨A1, c1, rfl, hb1⟩; have x6 : w1.cell? ⟨w.heap.size, 6, none⟩ = some (.int .i64 s.code) := (hb1.cell (p := ⟨w.heap.size, 6, none⟩) (by simp; omega)).trans (by simp [go_sem]); have x13 : w1.cell? ⟨w.heap.size, 13, none⟩ = some (.int .i64 s.en) := (hb1.cell (p := ⟨w.heap.size, 13, none⟩) (by simp; omega)).trans (by simp [go_sem]))
        go_ret
        exact ⟨rfl, (show Below w.heap.size w _ from Below.trans (by repeat (first | exact Below.refl _ _ | assumption | refine Below.drew ?_ | refine below_drewN ?_ _ | refine Below.alloc ?_ (by first | omega | (simp; done) | (simp; omega)) _ | refine Below.setCell ?_ (by first | omega | (simp; done) | (simp; omega)) _)) (hb1.mono (by first | omega | (simp; done) | (simp; omega))))⟩

  · have e1 : countK [s] = 0 := by simp [countK, hk]
    rw [e1] at T
    have e2 : countsB s = false := by simp [countsB, hk]
    rw [e2]
    clear hk e1 e2
    go_enter Tryz.func32, Tryz.ntmps32
    go_wp2_with (go_at_call 45; refine (T _ (by repeat (first | exact Below.refl _ _ | assumption | refine Below.drew ?_ | refine below_drewN ?_ _ | refine Below.alloc ?_ (by first | omega | (simp; done) | (simp; omega)) _ | refine Below.setCell ?_ (by first | omega | (simp; done) | (simp; omega)) _)) ?_ (by first | omega | (simp; done) | (simp; omega))).mono ?_; (rw [heap_alloc_if, if_pos (by simp)]; rfl); rintro e w1 ⟨A1, c1, rfl, hb1⟩; have x6 : w1.cell? ⟨w.heap.size, 6, none⟩ = some (.int .i64 s.code) := (hb1.cell (p := ⟨w.heap.size, 6, none⟩) (by simp; omega)).trans (by simp [go_sem]); have x13 : w1.cell? ⟨w.heap.size, 13, none⟩ = some (.int .i64 s.en) := (hb1.cell (p := ⟨w.heap.size, 13, none⟩) (by simp; omega)).trans (by simp [go_sem]))
    go_ret
    exact ⟨rfl, (show Below w.heap.size w _ from Below.trans (by repeat (first | exact Below.refl _ _ | assumption | refine Below.drew ?_ | refine below_drewN ?_ _ | refine Below.alloc ?_ (by first | omega | (simp; done) | (simp; omega)) _ | refine Below.setCell ?_ (by first | omega | (simp; done) | (simp; omega)) _)) (hb1.mono (by first | omega | (simp; done) | (simp; omega))))⟩

end Go.Proofs.YtamcehfcjcmpmaaGreatDoor
namespace Go.Proofs.YtamcehfcjcmpmaaGreatDoor
open Go.RowKit

theorem Arr.bit1 {w : World} {B : Nat} {A : Option Addr} {l : List Bool} (h : Arr bit 1 w B A l) {i : Nat} (hi : i < l.length) : ∃ b off, A = some ⟨b, off, none⟩ ∧ b < B ∧ w.cell? ⟨b, off + i * 1, none⟩ = some (.bool l[i]) := by
  rcases h with h | ⟨b, off, hA, hB, hc⟩
  · subst h; simp at hi
  · exact ⟨b, off, hA, hB, hc i hi 0 _ rfl⟩
def SameTo (l m : List Bool) (k : Nat) : Prop := ∀ i (h : i < l.length) (h' : i < m.length), i < k → l[i] = m[i]
set_option maxHeartbeats 2000000 in
theorem equalBit (l m : List Bool) (A : Option Addr) (c : Nat) (B : Option Addr) (d : Nat) (w : World) (hA : Arr bit 1 w w.heap.size A l) (hB : Arr bit 1 w w.heap.size B m) (hl : l.length ≤ 1000000) :
    Calls Tryz.prog 51 #[.slice A l.length c, .slice B m.length d] w fun e w' => e = .returned (.bool (l == m)) ∧ Below w.heap.size w w' := by
  have HA := hid hA
  have HB := hid hB
  clear hA hB
  by_cases hlen : l.length = m.length
  · have e1 : (((l.length : Nat) : Int) != ((m.length : Nat) : Int)) = false := by simp [hlen]
    have HLEN := hid hlen
    clear hlen
    go_enter Tryz.func51, Tryz.ntmps51
    go_wp2_with fail
    go_loopw [13] (fun v13 wr => ∃ k : Nat, k ≤ l.length ∧ v13 = .int .i64 k ∧ Below w.heap.size w wr ∧ Hid (SameTo l m k)) (fun v13 _ => l.length - (intOf v13).toNat)
    case atStart => exact ⟨0, Nat.zero_le _, rfl, Below.refl _ _, hid fun _ _ _ h => absurd h (by omega)⟩
    case round =>
      obtain ⟨k, hkl, rfl, hb, hs⟩ := hrel
      by_cases hlt : k < l.length
      · have hlt' : k < m.length := by have := HLEN.out; omega
        obtain ⟨b, off, rfl, hbB, d0⟩ := (HA.out.below hb).bit1 hlt
        obtain ⟨b', off', rfl, hbB', d1⟩ := (HB.out.below hb).bit1 hlt'
        simp only [Nat.mul_one] at d0 d1
        have hsz := hb.size
        have hb1 : b < wr.heap.size := by omega
        have hb2 : b' < wr.heap.size := by omega
        have i1 : (0 : Int) ≤ (k : Int) := by omega
        have i2 : (k : Int) < (l.length : Int) := by omega
        have i3 : (k : Int) < (m.length : Int) := by omega
        by_cases hkk : l[k] = m[k]
        · have g1 : (l[k] == m[k]) = true := by simp [hkk]
          have HS : Hid (SameTo l m (k + 1)) := hid fun i h h' hik => by
            rcases (by omega : i < k ∨ i = k) with h2 | rfl
            · exact hs.out i h h' h2
            · exact hkk
          clear hkk hs
          go_wp2_with fail
          go_quiet (fail)
          go_wp2
          exact ⟨⟨k + 1, by omega, by go_num, below_drewN hb _, HS⟩, by simp [intOf]; omega⟩
        · have g1 : (l[k] == m[k]) = false := by simpa using hkk
          have HNE : Hid ((l == m) = false) := hid (by
            have : l ≠ m := fun h => hkk (by simp [h])
            simpa using this)
          clear hkk hs
          go_wp2_with fail
          go_quiet (fail)
          go_wp2
          go_ret
          exact ⟨by rw [HNE.out]; rfl, below_drewN hb _⟩
      · have HEQ : Hid ((l == m) = true) := hid (by
          have hle := HLEN.out
          have : l = m := List.ext_getElem hle fun i h h' => hs.out i h h' (by omega)
          simpa using this)
        go_wp2_with fail
        go_ret
        exact ⟨by rw [HEQ.out]; rfl, hb⟩
  · have e1 : (((l.length : Nat) : Int) != ((m.length : Nat) : Int)) = true := by simp; omega
    have e2 : (l == m) = false := by
      have : l ≠ m := fun h => hlen (by rw [h])
      simpa using this
    rw [e2]
    clear e2 hlen
    go_enter Tryz.func51, Tryz.ntmps51
    go_wp2_with fail
    go_ret
    exact ⟨rfl, Below.refl _ _⟩
/-- was a story answered so? -/
def answeredB (s : Story) (hs : List Bool) (a : Ans) : Bool := decide (s.en < 0) || (a.code == 0 && s.fd == a.found && s.vl.toList == a.value.toList && hs == a.hits)
set_option maxHeartbeats 4000000 in
set_option maxRecDepth 100000 in
theorem answered_any (s : Story) (hs : List Bool) (a : Ans) (RA : Option Addr) (rc : Nat) (HX : Option Addr) (hx : Nat) (w : World) (hH : Arr bit 1 w w.heap.size s.hA hs) (hn : s.hn = hs.length) (hX : Arr bit 1 w w.heap.size HX a.hits) (hl : hs.length ≤ 1000000) :
    Calls Tryz.prog 36 #[storyV s, .agg #[.int .i64 a.code, .bool a.found, .string a.value, .slice RA a.pairs.length rc, .slice HX a.hits.length hx, .int .u64 0]] w fun e w' => e = .returned (.bool (answeredB s hs a)) ∧ Below w.heap.size w w' := by
  have T : ∀ W, Below w.heap.size w W → Calls Tryz.prog 51 #[.slice s.hA s.hn s.hc, .slice HX a.hits.length hx] W fun e w' => e = .returned (.bool (hs == a.hits)) ∧ Below W.heap.size W w' := fun W hb => by
    rw [hn]
    exact equalBit hs a.hits _ _ _ _ W ((hH.below hb).more hb.size) ((hX.below hb).more hb.size) hl
  clear hH hX hl hn
  unfold storyV
  by_cases h1 : s.en < 0
  · have g1 : decide (s.en < 0) = true := by simpa using h1
    have e2 : answeredB s hs a = true := by simp [answeredB, h1]
    rw [e2]
    clear e2 T g1
    go_enter Tryz.func36, Tryz.ntmps36
    go_wp2_with fail
    go_ret
    exact ⟨rfl, (by repeat (first | exact Below.refl _ _ | assumption | refine Below.drew ?_ | refine below_drewN ?_ _ | refine Below.alloc ?_ (by first | omega | (simp; done) | (simp; omega)) _ | refine Below.setCell ?_ (by first | omega | (simp; done) | (simp; omega)) _))⟩
  · have g1 : decide (s.en < 0) = false := decide_eq_false h1
    by_cases h2 : a.code = 0
    · have g2 : (a.code == 0) = true := by simp [h2]
      by_cases h3 : s.fd = a.found
      · have g3 : (s.fd == a.found) = true := by simp [h3]
        by_cases h4 : (s.vl.toList == a.value.toList) = true
        · have e2 : answeredB s hs a = (hs == a.hits) := by simp only [answeredB, g2, g3, h4, decide_eq_false h1, Bool.true_and, Bool.false_or]
          rw [e2]
          clear e2 h1 h2 h3
          go_enter Tryz.func36, Tryz.ntmps36
          go_wp2_with (go_at_call 51; refine (T _ (by repeat (first | exact Below.refl _ _ | assumption | refine Below.drew ?_ | refine below_drewN ?_ _ | refine Below.alloc ?_ (by first | omega | (simp; done) | (simp; omega)) _ | refine Below.setCell ?_ (by first | omega | (simp; done) | (simp; omega)) _))).mono ?_; rintro e w1 ⟨rfl, hb1⟩)
          go_ret
          exact ⟨rfl, Below.trans (by repeat (first | exact Below.refl _ _ | assumption | refine Below.drew ?_ | refine below_drewN ?_ _ | refine Below.alloc ?_ (by first | omega | (simp; done) | (simp; omega)) _ | refine Below.setCell ?_ (by first | omega | (simp; done) | (simp; omega)) _)) (hb1.mono (by first | omega | (simp; done) | (simp; omega)))⟩
        · have g4 : (s.vl.toList == a.value.toList) = false := by simpa using h4
          have e2 : answeredB s hs a = false := by simp only [answeredB, g2, g3, g4, decide_eq_false h1, Bool.true_and, Bool.false_or, Bool.and_false, Bool.false_and]
          rw [e2]
          clear e2 T h1 h2 h3 h4
          go_enter Tryz.func36, Tryz.ntmps36
          go_wp2_with fail
          go_ret
          exact ⟨rfl, (by repeat (first | exact Below.refl _ _ | assumption | refine Below.drew ?_ | refine below_drewN ?_ _ | refine Below.alloc ?_ (by first | omega | (simp; done) | (simp; omega)) _ | refine Below.setCell ?_ (by first | omega | (simp; done) | (simp; omega)) _))⟩
      · have g3 : (s.fd == a.found) = false := by simpa using h3
        have e2 : answeredB s hs a = false := by simp only [answeredB, g2, g3, decide_eq_false h1, Bool.false_or, Bool.and_false, Bool.false_and]
        rw [e2]
        clear e2 T h1 h2 h3
        go_enter Tryz.func36, Tryz.ntmps36
        go_wp2_with fail
        go_ret
        exact ⟨rfl, (by repeat (first | exact Below.refl _ _ | assumption | refine Below.drew ?_ | refine below_drewN ?_ _ | refine Below.alloc ?_ (by first | omega | (simp; done) | (simp; omega)) _ | refine Below.setCell ?_ (by first | omega | (simp; done) | (simp; omega)) _))⟩
    · have g2 : (a.code == 0) = false := by simpa using h2
      have e2 : answeredB s hs a = false := by simp only [answeredB, g2, decide_eq_false h1, Bool.false_or, Bool.false_and]
      rw [e2]
      clear e2 T h1 h2
      go_enter Tryz.func36, Tryz.ntmps36
      go_wp2_with fail
      go_ret
      exact ⟨rfl, (by repeat (first | exact Below.refl _ _ | assumption | refine Below.drew ?_ | refine below_drewN ?_ _ | refine Below.alloc ?_ (by first | omega | (simp; done) | (simp; omega)) _ | refine Below.setCell ?_ (by first | omega | (simp; done) | (simp; omega)) _))⟩
end Go.Proofs.YtamcehfcjcmpmaaGreatDoor
