/- serial.begun: a search through those that count. -/
import Derived.Test.YtamcehfcjcmpmaaGreatDoorSt6
import Derived.Test.YtamcehfcjcmpmaaGreatDoorSt8
import Derived.Test.YtamcehfcjcmpmaaGreatDoorApp
import Derived.Deep.DeepCutAuto
import Derived.Laws.Bits64b
namespace Go.Proofs.YtamcehfcjcmpmaaGreatDoor
open Go.RowKit

def numE (n : Nat) : List Value := [.int .i64 (n : Int)]
theorem numE_len (n : Nat) : (numE n).length = 1 := rfl
theorem numE_one (n : Nat) : ∀ u ∈ numE n, u.oneCell' = true := by intro u hu; simp [numE] at hu; subst hu; rfl
theorem info_int : (Tryz.prog.info? 3).map (fun i => (i.zero, i.size, i.bytes)) = some (some (.int .i64 0), 1, 8) := by kernel_rfl
theorem app_num {ops : Array Oper} {rest : List Oper} {o : Oper} {a : Act} {Q : Exit → Act → World → Prop} (w : World) (hgd : o.guard = none) (s x : Operand)
    (ho : o.op = .call { callee := .builtin .append, args := #[s, x], argTypes := #[30, 30] }) {lo : Nat} {A : Option Addr} {c : Nat} {l : List Nat} (hs : a.eval s = .slice A l.length c) (own : Own numE 3 1 w lo A c l)
    {B : Nat} {A2 : Option Addr} {m : List Nat} (c2 : Nat) (hx : a.eval x = .slice A2 m.length c2) (arr : Arr numE 1 w B A2 m) (hb : l.length + m.length ≤ 1000000) (hlo : lo ≤ w.heap.size)
    (h : ∀ A' c' w', Own numE 3 1 w' lo A' c' (l ++ m) → w.grownBy w' (rowOf A c) → (A' = A ∧ c' = c ∨ ∃ g, A' = some ⟨g, 0, none⟩ ∧ w.heap.size ≤ g) → wpList Tryz.prog ops Q rest (a.put o.dst (.slice A' (l.length + m.length) c')) w') :
    wpList Tryz.prog ops Q (o :: rest) a w := by
  obtain ⟨i0, hi, hz0, hz1, hz2⟩ := info_parts info_int
  exact wpList_append_Own w hgd s x 30 ho i0 _ 8 Tryz.underlying30 hi hz0 hz1 hz2 rfl (by decide) numE_len numE_one hs own c2 hx arr (by unfold maxLen; omega) (by omega) hlo h
theorem arr_oneNum {w : World} {vb : Nat} {x : Nat} (hv : w.heap[vb]? = some (.cells #[.int .i64 (x : Int)] 3 (0, 0))) : Arr numE 1 w w.heap.size (some ⟨vb, 0, none⟩) [x] := by
  refine Arr.of_cells numE_len ?_ fun j u hu => ?_
  · exact lt_of_heap hv
  · rw [Nat.zero_add, cell_of_row w vb j _ _ _ hv]
    simpa [numE] using hu
/-- which of them must be in a row -/
def MustIs (L : List Story) (m : Nat) : Prop := ∀ i, m.testBit i = true ↔ ∃ h : i < L.length, 0 ≤ L[i].en
def pick (l : List Story) (k : Nat) : List Story := (l.take k).filter countsB
def placesTo (l : List Story) : Nat → List Nat
  | 0 => []
  | k + 1 => placesTo l k ++ (if ∃ h : k < l.length, countsB l[k] = true then [k] else [])
theorem placesTo_le (l : List Story) : ∀ k, (placesTo l k).length ≤ k
  | 0 => Nat.le_refl _
  | k + 1 => by
    have := placesTo_le l k
    rw [placesTo, List.length_append]
    split <;> simp <;> omega
theorem placesTo_yes {l : List Story} {k : Nat} (hk : k < l.length) (h : countsB l[k] = true) : placesTo l (k + 1) = placesTo l k ++ [k] := by rw [placesTo, if_pos ⟨hk, h⟩]
theorem placesTo_no {l : List Story} {k : Nat} (hk : k < l.length) (h : ¬ countsB l[k] = true) : placesTo l (k + 1) = placesTo l k := by rw [placesTo, if_neg (fun ⟨_, h2⟩ => h h2), List.append_nil]
/-- a search in a variable -/
structure SAt (w : World) (p m : Nat) (A : Option Addr) (c : Nat) (n must : Nat) (R : Option Addr) (rn rc : Nat) : Prop where
  row : w.heap[p]? = some (.cells #[.slice A n c, .int .u64 (must : Int), .slice R rn rc, .map (some m)] 70 (0, 0))
structure BInv (w : World) (l : List Story) (k : Nat) (wr : World) (A' : Option Addr) (c' : Nat) : Prop where
  srch : ∃ A c must, SAt wr (w.heap.size + 1) w.heap.size A c (pick l k).length must none 0 0 ∧ MustIs (pick l k) must ∧ Own Story.enc 52 14 wr (w.heap.size + 2) A c (pick l k)
  map : wr.heap[w.heap.size]? = some (.map #[] 0)
  own : Own numE 3 1 wr (w.heap.size + 2) A' c' (placesTo l k)
  below : Below w.heap.size w wr
  size : w.heap.size + 2 ≤ wr.heap.size
theorem rowOf_ge {α : Type} {enc : α → List Value} {e : TypeId} {k : Nat} {W : World} {lo : Nat} {A : Option Addr} {c : Nat} {l : List α} (h : Own enc e k W lo A c l) {q : Nat} (hq : q < lo) : some q ≠ rowOf A c := by
  intro he
  unfold rowOf at he
  split at he
  · cases he
  · rename_i hc0
    rcases h.lt with h0 | ⟨b, off, hA, hl, -⟩
    · exact hc0 h0
    · subst hA
      cases he
      exact Nat.lt_irrefl _ (Nat.lt_of_lt_of_le hq hl)
/-- a row is kept by an append to a row of another type -/
theorem Own.apartTy {α β : Type} {enc : α → List Value} {enc' : β → List Value} {e e' : TypeId} {k k' : Nat} {W W' : World} {lo lo' : Nat} {A A' : Option Addr} {c c' : Nat} {l : List α} {l' : List β}
    (h : Own enc e k W lo A c l) (h' : Own enc' e' k' W lo' A' c' l') (hne : e ≠ e') (hg : W.grownBy W' (rowOf A' c')) : Own enc e k W' lo A c l := by
  obtain ⟨h1, h2, h3⟩ := h
  rcases h3 with h3 | ⟨b, off, cur, rfl, hlo, hh, hs, hc⟩
  · exact ⟨h1, h2, .inl h3⟩
  · refine ⟨h1, h2, .inr ⟨b, off, cur, rfl, hlo, ?_, hs, hc⟩⟩
    rw [hg.block b (lt_of_heap hh) ?_]
    · exact hh
    · intro he
      unfold rowOf at he
      split at he
      · cases he
      · rename_i hc0
        rcases h'.2.2 with h4 | ⟨b', off', cur', rfl, _, hh', _⟩
        · exact hc0 h4
        · cases he
          rw [hh] at hh'
          cases hh'
          exact hne rfl
theorem pick_succ {l : List Story} {k : Nat} (hk : k < l.length) : pick l (k + 1) = pick l k ++ (if countsB l[k] = true then [l[k]] else []) := by
  unfold pick
  rw [List.take_succ_eq_append_getElem hk, List.filter_append]
  by_cases h : countsB l[k] = true <;> simp [h]
theorem must_snoc {L : List Story} {m : Nat} {x : Story} (h : MustIs L m) (hx : 0 ≤ x.en) : MustIs (L ++ [x]) (m ||| 1 <<< L.length) := by
  intro i
  rw [testBit_set, Bool.or_eq_true, h i, decide_eq_true_iff]
  constructor
  · rintro (⟨h1, h2⟩ | rfl)
    · exact ⟨by simp; omega, by rw [List.getElem_append_left h1]; exact h2⟩
    · exact ⟨by simp, by simpa using hx⟩
  · rintro ⟨h1, h2⟩
    rcases Nat.lt_or_ge i L.length with h3 | h3
    · rw [List.getElem_append_left h3] at h2
      exact .inl ⟨h3, h2⟩
    · simp at h1
      exact .inr (by omega)
theorem must_skip {L : List Story} {m : Nat} {x : Story} (h : MustIs L m) (hx : ¬ 0 ≤ x.en) : MustIs (L ++ [x]) m := by
  intro i
  rw [h i]
  constructor
  · rintro ⟨h1, h2⟩
    exact ⟨by simp; omega, by rw [List.getElem_append_left h1]; exact h2⟩
  · rintro ⟨h1, h2⟩
    rcases Nat.lt_or_ge i L.length with h3 | h3
    · rw [List.getElem_append_left h3] at h2
      exact ⟨h3, h2⟩
    · simp at h1
      obtain rfl : i = L.length := by omega
      exact absurd (by simpa using h2) hx
theorem must_bits (m n : Nat) (hm : m < 18446744073709551616) (hn : n ≤ 60) : bits BinOp.or IntKind.u64 (m : Int) (IntKind.u64.wrap (2 ^ n)) = ((m ||| 1 <<< n : Nat) : Int) := by
  have h1 : (2 : Nat) ^ n ≤ 2 ^ 60 := Nat.pow_le_pow_right (by decide) hn
  have h3 : (2 : Nat) ^ 60 = 1152921504606846976 := by decide
  obtain ⟨q, hq⟩ : ∃ q : Nat, 2 ^ n = q := ⟨_, rfl⟩
  have e : ((2 : Int) ^ n) = (q : Int) := by rw [← hq]; simp
  have h2 : IntKind.u64.wrap ((2 : Int) ^ n) = (q : Int) := by
    rw [e, IntKind.wrap_u64]
    omega
  rw [h2, Nat.shiftLeft_eq, Nat.one_mul, hq]
  exact bits_or_u64_nat m q hm (by omega)
theorem must_bits_min (m n : Nat) (hm : m < 18446744073709551616) (hn : n ≤ 60) : bits BinOp.or IntKind.u64 (m : Int) (IntKind.u64.wrap (2 ^ min n 64)) = ((m ||| 1 <<< n : Nat) : Int) := by
  rw [Nat.min_eq_left (by omega)]
  exact must_bits m n hm hn
theorem must_lt {L : List Story} {m : Nat} (h : MustIs L m) (hl : L.length ≤ 61) : m < 2305843009213693952 := by
  refine Nat.lt_of_not_le fun hge => ?_
  obtain ⟨i, hi, hb⟩ : ∃ i, 61 ≤ i ∧ m.testBit i = true := Nat.exists_ge_and_testBit_of_ge_two_pow (n := 61) hge
  obtain ⟨h1, _⟩ := (h i).1 hb
  omega
def GivesB (l : List Story) (w : World) (e : Ending) (w' : World) : Prop := ∃ A' c', e = .returned (.tuple #[.pointer (some ⟨w.heap.size + 1, 0, none⟩), .slice A' (placesTo l l.length).length c']) ∧ BInv w l l.length w' A' c'
/-- a round of begun, behind 'must |= ..' -/
structure BMid (w wr : World) (l : List Story) (k : Nat) (hk : k < l.length) (As : Option Addr) (cs : Nat) (A' : Option Addr) (c' : Nat) (wx : World) : Prop where
  row : ∃ must : Nat, wx.heap[w.heap.size + 1]? = some (.cells #[.slice As (pick l k).length cs, .int .u64 (must : Int), .slice none 0 0, .map (some w.heap.size)] 70 (0, 0)) ∧ MustIs (pick l k ++ [l[k]]) must
  loc : wx.heap[wr.heap.size]? = some (.cells l[k].enc.toArray 52 (0, 0))
  map : wx.heap[w.heap.size]? = some (.map #[] 0)
  own : Own Story.enc 52 14 wx (w.heap.size + 2) As cs (pick l k)
  num : Own numE 3 1 wx (w.heap.size + 2) A' c' (placesTo l k)
  below : Below w.heap.size w wx
set_option maxHeartbeats 8000000 in
set_option maxRecDepth 100000 in
theorem begun_any (l : List Story) (A : Option Addr) (c : Nat) (w : World) (hA : Arr Story.enc 14 w w.heap.size A l) (hS : ∀ s ∈ l, StIn w w.heap.size s) (hc : l.length ≤ c) (hm : c ≤ 9223372036854775807) (hl : l.length ≤ 60) :
    Calls Tryz.prog 24 #[.slice A l.length c] w (GivesB l w) := by
  have HA := hid hA
  have HS := hid hS
  have HL := hid hl
  clear hA hS hl
  have hmm := @run_makeMap Tryz.prog
  go_enter Tryz.func24, Tryz.ntmps24
  go_wp2_with fail
  have hgx := hid hmm
  clear hmm
  go_loopw [5, 13] (fun v5 v13 wr => ∃ (k : Nat) (A' : Option Addr) (c' : Nat), k ≤ l.length ∧ v13 = .int .i64 k ∧ v5 = .slice A' (placesTo l k).length c' ∧ BInv w l k wr A' c') (fun _ v13 _ => l.length - (intOf v13).toNat)
  case atStart =>
    refine ⟨0, none, 0, Nat.zero_le _, rfl, rfl, ⟨⟨none, 0, 0, ⟨(heap_alloc_if _ _ _).trans (by rw [if_pos (by simp)]; rfl)⟩, fun i => by simp [pick], Own.none_⟩, (heap_alloc_if _ _ _).trans (by rw [if_neg (by simp), heap_alloc_if, if_pos rfl]), Own.none_, (by repeat (first | exact Below.refl _ _ | assumption | refine Below.drew ?_ | refine below_drewN ?_ _ | refine Below.alloc ?_ (by first | omega | (simp; done) | (simp; omega)) _ | refine Below.setCell ?_ (by first | omega | (simp; done) | (simp; omega)) _)), by simp⟩⟩
  case round =>
    obtain ⟨k, A', c', hkl, rfl, rfl, ⟨As, cs, must, hs, hmu, hos⟩, hmap, hop, hb, hz⟩ := hrel
    by_cases hlt : k < l.length
    · obtain ⟨b, off, rfl, hB, hcells⟩ := (HA.out.below hb).story hlt
      obtain ⟨c0, c1, c2, c3, c4, c5, c6, c7, c8, c9, c10, c11, c12, c13⟩ := hcells
      have hsz := hb.size
      have hbr : b < wr.heap.size := by omega
      have HSK := hid ((HS.out l[k] (List.getElem_mem hlt)).up hb)
      have T49 : ∀ W, Below wr.heap.size wr W → Calls Tryz.prog 32 #[storyV l[k]] W (fun e w' => e = .returned (.bool (countsB l[k])) ∧ Below W.heap.size W w') := fun W hW => counts_any l[k] W (HSK.out.up hW)
      unfold storyV at T49
      have hpk : (pick l k).length ≤ 60 := by
        have h1 := List.length_filter_le countsB (l.take k)
        have h2 := HL.out
        unfold pick
        rw [List.length_take] at h1
        omega
      have HPK := hid hpk
      have HMU := hid hmu
      have HROW := hid hs.row
      have HMAP := hid hmap
      have HOS := hid hos
      have HOP := hid hop
      clear hpk hmu hs hmap hos hop
      by_cases hcb : countsB l[k] = true
      · rw [hcb] at T49
        have HCB := hid hcb
        clear hcb
        go_upto_if 23 with (go_at_call 32; refine (T49 _ (by repeat (first | exact Below.refl _ _ | assumption | refine Below.drew ?_ | refine below_drewN ?_ _ | refine Below.alloc ?_ (by first | omega | (simp; done) | (simp; omega)) _ | refine Below.setCell ?_ (by first | omega | (simp; done) | (simp; omega)) _))).mono ?_; rintro e w1 ⟨rfl, hb1⟩; have RL : w1.heap[wr.heap.size]? = some (.cells l[k].enc.toArray 52 (0, 0)) := (hb1.block _ (by simp)).trans (by rw [heap_alloc_if, if_pos rfl]; rfl); obtain ⟨x1, x2, x3, x4, x5, x6, x7, x8, x9, x10, x11, x0, x12, x13⟩ := row_story RL; have hq : wr.heap.size < w1.heap.size := lt_of_heap RL)
        have z1 := hb1.size
        simp only [World.size_alloc] at z1
        have st1 : Below wr.heap.size wr w1 := Below.trans (by repeat (first | exact Below.refl _ _ | assumption | refine Below.drew ?_ | refine below_drewN ?_ _ | refine Below.alloc ?_ (by first | omega | (simp; done) | (simp; omega)) _ | refine Below.setCell ?_ (by first | omega | (simp; done) | (simp; omega)) _)) (hb1.mono (by first | omega | (simp; done) | (simp; omega)))
        have rp := (st1.block (w.heap.size + 1) (by omega)).trans HROW.out
        have hm1 := (st1.block w.heap.size (by omega)).trans HMAP.out
        have HOS1 := hid (HOS.out.below st1)
        have HOP1 := hid (HOP.out.below st1)
        have HB1 := hid (hb.trans (st1.mono hsz))
        have p0 := cell_of_row w1 _ 0 _ _ _ rp
        have p1 := cell_of_row w1 _ 1 _ _ _ rp
        have fp1 := frozen_of_row w1 _ 1 _ _ rp
        have hpl : w.heap.size + 1 < w1.heap.size := by omega
        have HRP := hid rp
        have HRL := hid RL
        have HM1 := hid hm1
        clear rp RL hm1 hb1 T49 c0 c1 c2 c3 c4 c5 c6 c7 c8 c9 c10 c11 c12 c13 HROW HMAP HOS HOP
        go_cut [7] (fun v7 wx => v7 = .pointer (some ⟨wr.heap.size, 0, none⟩) ∧ BMid w wr l k hlt As cs A' c' wx)
        case first =>
          by_cases hen : 0 ≤ l[k].en
          · have hen' : decide (0 ≤ l[k].en) = true := by simpa using hen
            go_upto_region 8 with fail
            go_region
            go_wp2_with fail
            go_meet
            rw [must_bits_min must _ (by have := must_lt HMU.out (by have := HPK.out; omega); omega) HPK.out]
            obtain ⟨w2, hw2⟩ : ∃ w2, w2 = (w1.setCell ⟨w.heap.size + 1, 1, none⟩ (.int .u64 ((must ||| 1 <<< (pick l k).length : Nat) : Int))).drew := ⟨_, rfl⟩
            rw [← hw2]
            refine ⟨rfl, ⟨⟨_, ?_, must_snoc HMU.out hen⟩, ?_, ?_, ?_, ?_, ?_⟩⟩
            · rw [hw2]; exact heap_setCell_same _ (w.heap.size + 1) 1 _ _ (.int .u64 ((must ||| 1 <<< (pick l k).length : Nat) : Int)) HRP.out
            · rw [hw2]; exact (Below.heap_setCell _ _ _ _ (by show wr.heap.size ≠ w.heap.size + 1; omega)).trans HRL.out
            · rw [hw2]; exact (Below.heap_setCell _ _ _ _ (by show w.heap.size ≠ w.heap.size + 1; omega)).trans HM1.out
            · rw [hw2]; exact (HOS1.out.setCell (by show w.heap.size + 1 < w.heap.size + 2; omega) _).drew
            · rw [hw2]; exact (HOP1.out.setCell (by show w.heap.size + 1 < w.heap.size + 2; omega) _).drew
            · rw [hw2]; exact (HB1.out.setCell (by show w.heap.size ≤ w.heap.size + 1; omega) _).drew
          · have hen' : decide (0 ≤ l[k].en) = false := by simpa using hen
            go_wp2_with fail
            go_meet
            exact ⟨rfl, ⟨⟨must, HRP.out, must_skip HMU.out (by omega)⟩, HRL.out, HM1.out, HOS1.out, HOP1.out, HB1.out⟩⟩
        case rest =>
          obtain ⟨rfl, ⟨⟨must2, R2, hmu2⟩, L2, M2, O2, N2, B2⟩⟩ := hcut
          obtain ⟨i0, hi, hz0, hz1, hz2⟩ := info_parts info_story
          obtain ⟨y1, y2, y3, y4, y5, y6, y7, y8, y9, y10, y11, y0, y12, y13⟩ := row_story L2
          have g0 := cell_of_row wc _ 0 _ _ _ R2
          have hl2 : wr.heap.size < wc.heap.size := lt_of_heap L2
          have hp2 : w.heap.size + 1 < wc.heap.size := lt_of_heap R2
          have gA : ∀ o : Obj, (wc.alloc o).cell? ⟨w.heap.size + 1, 0, none⟩ = some (.slice As (pick l k).length cs) := fun o => (World.cell?_of_block (a := ⟨w.heap.size + 1, 0, none⟩) (Below.heap_alloc wc o _ hp2)).trans g0
          clear x0 x1 x2 x3 x4 x5 x6 x7 x8 x9 x10 x11 x12 x13 p0 p1 fp1 HOS1 HOP1 HB1 HRL HM1 HRP hq hpl
          have HO2 := hid O2
          have HN2 := hid N2
          have HI := hid hi
          have HZ0 := hid hz0
          have HZ1 := hid hz1
          have HZ2 := hid hz2
          have HR2 := hid R2
          have HM2 := hid M2
          have HMU2 := hid hmu2
          have HB2 := hid B2
          clear O2 N2 hi hz0 hz1 hz2 R2 M2 hmu2 L2 B2
          go_upto_region 9 with fail
          go_region_law (refine step_append_Own (l := pick l k) (m := [l[k]]) (A := As) (c := cs) (lo := w.heap.size + 2) _ (by rfl) (.tmp 41) (.tmp 43) 26 (by rfl) i0 _ 192 Tryz.underlying26 HI.out HZ0.out HZ1.out HZ2.out rfl (by decide) Story.enc_len Story.enc_one (by simp [Act.eval]) (by first | exact HO2.out.alloc _ | exact (HO2.out.drew).alloc _ | exact (HO2.out.alloc _).drew) 1 (by simp [Act.eval]) (arr_oneStory (vb := wc.heap.size) (x := l[k]) (by first | (rw [heap_alloc_if, if_pos (by simp)]; done) | (rw [heap_alloc_if, if_pos (by simp)]; rfl) | (show (World.alloc _ _).heap[_]? = _; rw [heap_alloc_if, if_pos (by simp)]; done) | (show (World.alloc _ _).heap[_]? = _; rw [heap_alloc_if, if_pos (by simp)]; rfl))) (by have := HPK.out; unfold maxLen; first | omega | (simp; done) | (simp; omega)) (by have := HPK.out; first | omega | (simp; done) | (simp; omega)) (by first | omega | (simp; done) | (simp; omega)) ?_; intro A3 c3 w3 hown3 hgr3 hloc3; have R3 : w3.heap[w.heap.size + 1]? = _ := (hgr3.block (w.heap.size + 1) (by first | omega | (simp; done) | (simp; omega)) (rowOf_ge HO2.out (by omega))).trans ((by first | exact Below.heap_alloc wc _ _ hp2 | exact Below.heap_alloc wc.drew _ _ hp2 : _ = wc.heap[w.heap.size + 1]?).trans HR2.out); have r30 := cell_of_row w3 _ 0 _ _ _ R3; have f30 := frozen_of_row w3 _ 0 _ _ R3; have hp3 := lt_of_heap R3)
          all_goals
            have R4 := heap_setCell_same _ (w.heap.size + 1) 0 _ _ (.slice A3 ((pick l k).length + 1) c3) R3
            have N3 : Own numE 3 1 w3 (w.heap.size + 2) A' c' (placesTo l k) := Own.apartTy (by first | exact HN2.out.alloc _ | exact HN2.out.drew.alloc _ | exact (HN2.out.alloc _).drew) (by first | exact HO2.out.alloc _ | exact (HO2.out.drew).alloc _ | exact (HO2.out.alloc _).drew) (by decide) hgr3
            have M3 : w3.heap[w.heap.size]? = some (.map #[] 0) := (hgr3.block w.heap.size (by first | omega | (simp; done) | (simp; omega)) (rowOf_ge HO2.out (by omega))).trans ((by first | exact Below.heap_alloc wc _ _ (by omega) | exact Below.heap_alloc wc.drew _ _ (by show w.heap.size < wc.heap.size; omega) : _ = wc.heap[w.heap.size]?).trans HM2.out)
            have bw2 := HB2.out
            have B3 : Below w.heap.size w w3 := ownBelow (by first | exact (HO2.out.alloc _).lower (by omega) | exact ((HO2.out.drew).alloc _).lower (by omega)) hgr3 (by repeat (first | exact Below.refl _ _ | assumption | refine Below.drew ?_ | refine below_drewN ?_ _ | refine Below.alloc ?_ (by first | omega | (simp; done) | (simp; omega)) _ | refine Below.setCell ?_ (by first | omega | (simp; done) | (simp; omega)) _)) (by first | omega | (simp; done) | (simp; omega))
            obtain ⟨w4, hw4⟩ : ∃ w4, w4 = w3.setCell ⟨w.heap.size + 1, 0, none⟩ (.slice A3 ((pick l k).length + 1) c3) := ⟨_, rfl⟩
            rw [← hw4] at R4 ⊢
            have O4 : Own Story.enc 52 14 w4 (w.heap.size + 2) A3 c3 (pick l k ++ [l[k]]) := by rw [hw4]; exact hown3.setCell (by show w.heap.size + 1 < w.heap.size + 2; omega) _
            have N4 : Own numE 3 1 w4 (w.heap.size + 2) A' c' (placesTo l k) := by rw [hw4]; exact N3.setCell (by show w.heap.size + 1 < w.heap.size + 2; omega) _
            have M4 : w4.heap[w.heap.size]? = some (.map #[] 0) := by rw [hw4]; exact (Below.heap_setCell _ _ _ _ (by show w.heap.size ≠ w.heap.size + 1; omega)).trans M3
            have B4 : Below w.heap.size w w4 := by rw [hw4]; exact B3.setCell (by show w.heap.size ≤ w.heap.size + 1; omega) _
            have z4 := lt_of_heap R4
            have hpl4 := placesTo_le l k
            have hll := HL.out
            have HR4 := hid R4
            have HN4 := hid N4
            have HO4 := hid O4
            have HM4 := hid M4
            have HB4 := hid B4
            clear R4 N4 R3 r30 f30 O4 M4 B4 M3 N3 B3 hown3 hgr3 hloc3 bw2 gA y0 y1 y2 y3 y4 y5 y6 y7 y8 y9 y10 y11 y12 y13 g0 hw4
            go_wp2_with (at_builtin; refine app_num (l := placesTo l k) (m := [k]) (A := A') (c := c') (lo := w.heap.size + 2) _ rfl (.tmp 47) (.tmp 49) (by first | rfl | simp [Act.eval]) (by first | rfl | simp [Act.eval]) (HN4.out.alloc _) 1 (by first | rfl | simp [Act.eval]) (arr_oneNum (vb := w4.heap.size) (x := k) (by rw [heap_alloc_if, if_pos (by simp)])) (by first | omega | (simp; done) | (simp; omega)) (by first | omega | (simp; done) | (simp; omega)) ?_; intro A5 c5 w5 hown5 hgr5 hloc5)
            have hpk1 : pick l (k + 1) = pick l k ++ [l[k]] := by rw [pick_succ hlt, if_pos HCB.out]
            have hpl1 := placesTo_yes hlt HCB.out
            have R5 : w5.heap[w.heap.size + 1]? = some (.cells #[.slice A3 ((pick l k).length + 1) c3, .int .u64 (must2 : Int), .slice none 0 0, .map (some w.heap.size)] 70 (0, 0)) := (hgr5.block (w.heap.size + 1) (by first | omega | (simp; done) | (simp; omega)) (rowOf_ge HN4.out (by omega))).trans ((Below.heap_alloc w4 _ _ z4).trans HR4.out)
            have bw4 := HB4.out
            refine ⟨⟨k + 1, A5, c5, by omega, by go_num, ?_, ⟨⟨A3, c3, must2, ⟨?_⟩, ?_, ?_⟩, ?_, ?_, ?_, ?_⟩⟩, by simp [intOf]; omega⟩
            · rw [hpl1, List.length_append]; rfl
            · rw [hpk1, List.length_append]; exact R5
            · rw [hpk1]; exact HMU2.out
            · rw [hpk1]; exact Own.apartTy (HO4.out.alloc _) (HN4.out.alloc _) (by decide) hgr5
            · exact (hgr5.block w.heap.size (by first | omega | (simp; done) | (simp; omega)) (rowOf_ge HN4.out (by omega))).trans ((Below.heap_alloc w4 _ _ (by omega)).trans HM4.out)
            · rw [hpl1]; exact hown5
            · exact ownBelow ((HN4.out.alloc _).lower (by omega)) hgr5 (show Below w.heap.size w _ from bw4.alloc (by omega) _) (by first | omega | (simp; done) | (simp; omega))
            · have := hgr5.size; simp at this; omega
      · have hcb' : countsB l[k] = false := by simpa using hcb
        rw [hcb'] at T49
        have hpk1 : pick l (k + 1) = pick l k := by rw [pick_succ hlt, if_neg hcb, List.append_nil]
        have hpl1 := placesTo_no hlt hcb
        have HPK1 := hid hpk1
        have HPL1 := hid hpl1
        clear hpk1 hpl1 hcb hcb'
        go_wp2_with (go_at_call 32; refine (T49 _ (by repeat (first | exact Below.refl _ _ | assumption | refine Below.drew ?_ | refine below_drewN ?_ _ | refine Below.alloc ?_ (by first | omega | (simp; done) | (simp; omega)) _ | refine Below.setCell ?_ (by first | omega | (simp; done) | (simp; omega)) _))).mono ?_; rintro e w1 ⟨rfl, hb1⟩)
        have z1 := hb1.size
        simp only [World.size_alloc] at z1
        have st1 : Below wr.heap.size wr w1 := Below.trans (by repeat (first | exact Below.refl _ _ | assumption | refine Below.drew ?_ | refine below_drewN ?_ _ | refine Below.alloc ?_ (by first | omega | (simp; done) | (simp; omega)) _ | refine Below.setCell ?_ (by first | omega | (simp; done) | (simp; omega)) _)) (hb1.mono (by first | omega | (simp; done) | (simp; omega)))
        refine ⟨⟨k + 1, A', c', by omega, by go_num, ?_, ⟨⟨As, cs, must, ⟨?_⟩, ?_, ?_⟩, ?_, ?_, ?_, ?_⟩⟩, by simp [intOf]; omega⟩
        · rw [HPL1.out]
        · rw [HPK1.out]; exact (st1.block (w.heap.size + 1) (by omega)).trans HROW.out
        · rw [HPK1.out]; exact HMU.out
        · rw [HPK1.out]; exact HOS.out.below st1
        · exact (st1.block w.heap.size (by omega)).trans HMAP.out
        · rw [HPL1.out]; exact HOP.out.below st1
        · exact hb.trans (st1.mono hsz)
        · omega
    · obtain rfl : k = l.length := by omega
      have HI := hid (show BInv w l l.length wr A' c' from ⟨⟨As, cs, must, hs, hmu, hos⟩, hmap, hop, hb, hz⟩)
      clear hs hmu hos hmap hop
      go_wp2_with fail
      go_ret2
      exact ⟨_, _, rfl, HI.out⟩
end Go.Proofs.YtamcehfcjcmpmaaGreatDoor
