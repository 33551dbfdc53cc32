/- The statement AuditParts: the walk. -/
import Derived.Test.YtamcehfcjcmpmaaDeal
namespace Go.Proofs.Ytamcehfcjcmpmaa
open Go.RowKit

theorem info_taken : (Try.prog.info? 29).map (fun i => (i.zero, i.size, i.bytes)) = some (some (.agg #[.int .i64 0, .int .i64 0]), 2, 16) := by kernel_rfl
theorem Taken.enc_one (x : Taken) : ∀ u ∈ x.enc, u.oneCell' = true := by intro u hu; simp [Taken.enc] at hu; rcases hu with rfl | rfl <;> rfl
theorem info_parts {P : Program} {t : TypeId} {z : Value} {n b : Nat} (h : (P.info? t).map (fun i => (i.zero, i.size, i.bytes)) = some (some z, n, b)) : ∃ i, P.info? t = some i ∧ i.zero = some z ∧ i.size = n ∧ i.bytes = b := by
  cases hi : P.info? t with
  | none => rw [hi] at h; cases h
  | some i => rw [hi] at h; simp at h; exact ⟨i, rfl, h.1, h.2.1, h.2.2⟩
theorem row_new (w : World) (cs : Array Value) (t : TypeId) : (w.alloc (.cells cs t)).heap[w.heap.size]? = some (.cells cs t (0, 0)) := Array.getElem?_push_size
theorem row_at {w : World} {cs : Array Value} {t : TypeId} {n : Nat} (h : w.heap.size = n) : (w.alloc (.cells cs t)).heap[n]? = some (.cells cs t (0, 0)) := h ▸ row_new w cs t
theorem arr_oneT {w : World} {vb : Nat} {x : Taken} (hv : w.heap[vb]? = some (.cells x.enc.toArray 29 (0, 0))) : Arr Taken.enc 2 w w.heap.size (some ⟨vb, 0, none⟩) [x] := by
  refine Arr.of_cells Taken.enc_len ?_ fun j u hu => ?_
  · rcases Nat.lt_or_ge vb w.heap.size with h | h
    · exact h
    · rw [Array.getElem?_eq_none h] at hv; cases hv
  · rw [Nat.zero_add, cell_of_row w vb j _ _ _ hv]
    simpa using hu
theorem arr_oneX {w : World} {vb : Nat} {x : Taken} (hv : w.heap[vb]? = some (.cells #[.int .i64 x.line, .int .i64 x.cls] 29 (0, 0))) : Arr Taken.enc 2 w w.heap.size (some ⟨vb, 0, none⟩) [x] := arr_oneT hv
theorem app_taken {ops : Array Oper} {rest : List Oper} {o : Oper} {a : Act} {Q : Exit → Act → World → Prop} (w : World) (hgd : o.guard = none) (s x : Operand)
    (ho : o.op = .call { callee := .builtin .append, args := #[s, x], argTypes := #[24, 24] }) {lo : Nat} {A : Option Addr} {c : Nat} {l : List Taken} (hs : a.eval s = .slice A l.length c) (own : Own Taken.enc 29 2 w lo A c l)
    {B : Nat} {A2 : Option Addr} {m : List Taken} (c2 : Nat) (hx : a.eval x = .slice A2 m.length c2) (arr : Arr Taken.enc 2 w B A2 m) (hb : l.length + m.length ≤ 1000000) (hlo : lo ≤ w.heap.size)
    (h : ∀ A' c' w', Own Taken.enc 29 2 w' lo A' c' (l ++ m) → w.grownBy w' (rowOf A c) → (A' = A ∧ c' = c ∨ ∃ g, A' = some ⟨g, 0, none⟩ ∧ w.heap.size ≤ g) → wpList Try.prog ops Q rest (a.put o.dst (.slice A' (l.length + m.length) c')) w') :
    wpList Try.prog ops Q (o :: rest) a w := by
  obtain ⟨i0, hi, hz0, hz1, hz2⟩ := info_parts info_taken
  exact wpList_append_Own w hgd s x 24 ho i0 _ 16 Try.underlying24 hi hz0 hz1 hz2 rfl (by decide) Taken.enc_len Taken.enc_one hs own c2 hx arr (by unfold maxLen; omega) (by omega) hlo h
theorem step_taken (w : World) {ops : Array Oper} {o : Oper} {a : Act} {K : Act → World → Prop} {Q : Exit → Act → World → Prop} {E : Prop} (hgd : o.guard = none) (s x : Operand)
    (ho : o.op = .call { callee := .builtin .append, args := #[s, x], argTypes := #[24, 24] }) {lo : Nat} {A : Option Addr} {c : Nat} {l : List Taken} (hs : a.eval s = .slice A l.length c) (own : Own Taken.enc 29 2 w lo A c l)
    {B : Nat} {A2 : Option Addr} {m : List Taken} (c2 : Nat) (hx : a.eval x = .slice A2 m.length c2) (arr : Arr Taken.enc 2 w B A2 m) (hb : l.length + m.length ≤ 1000000) (hlo : lo ≤ w.heap.size)
    (h : ∀ A' c' w', Own Taken.enc 29 2 w' lo A' c' (l ++ m) → w.grownBy w' (rowOf A c) → (A' = A ∧ c' = c ∨ ∃ g, A' = some ⟨g, 0, none⟩ ∧ w.heap.size ≤ g) → K (a.put o.dst (.slice A' (l.length + m.length) c')) w') :
    if Region.wanted o (yielded ops a.tmps) = true then Oper.wp Try.prog o a w K Q else E := by
  have hw : Region.wanted o (yielded ops a.tmps) = true := by simp [Region.wanted, hgd]
  rw [if_pos hw]
  obtain ⟨i0, hi, hz0, hz1, hz2⟩ := info_parts info_taken
  obtain ⟨A', c', w', hrun, h2, h3, h4⟩ := run_append_Own (P := Try.prog) w 24 o.type i0 _ 16 Try.underlying24 hi hz0 hz1 hz2 rfl (by decide) Taken.enc_len Taken.enc_one own arr c2 (by unfold maxLen; omega) (by omega) hlo
  unfold Oper.wp execOp
  simp only [ho, resolve, invoke, builtin, Sem.run_bind, Sem.run_pure, Result.andThen_ok, List.map_toArray, List.map_cons, List.map_nil, hs, hx, hrun]
  exact h A' c' w' h2 h3 h4
def intE (n : Int) : List Value := [.int .i64 n]
theorem intE_len (n : Int) : (intE n).length = 1 := rfl
theorem Arr.int {w : World} {B : Nat} {A : Option Addr} {l : List Int} (h : Arr intE 1 w B A l) {i : Nat} (hi : i < l.length) : ∃ b off, A = some ⟨b, off, none⟩ ∧ b < B ∧ w.cell? ⟨b, off + i, none⟩ = some (.int .i64 l[i]) := by
  rcases h with h | ⟨b, off, hA, hB, hc⟩
  · subst h; simp at hi
  · exact ⟨b, off, hA, hB, by have := hc i hi 0 _ rfl; simpa using this⟩
/-- numbers as they lie in memory, below block B -/
structure IntsIn (w : World) (B : Nat) (A : Option Addr) (c : Nat) (l : List Int) : Prop where
  arr : Arr intE 1 w B A l
  len : l.length ≤ c
  max : c ≤ 9223372036854775807
theorem dealt_succ (cls deal : List Int) (n : Nat) : dealt cls deal (n + 1) = upd (upd (dealt cls deal n) 0 (dealt cls deal n 0 ++ [blockAt cls n])) (kind deal n + 1) (dealt cls deal n (kind deal n + 1) ++ [blockAt cls n]) := rfl
theorem row_lt {w : World} {lo : Nat} {A : Option Addr} {c : Nat} {l : List Taken} (h : Own Taken.enc 29 2 w lo A c l) {j : Nat} (hj : rowOf A c = some j) : j < w.heap.size := by
  unfold rowOf at hj
  split at hj
  · cases hj
  · rcases h.lt with h0 | ⟨b, off, rfl, _, hlt⟩
    · exact absurd h0 ‹_›
    · simp at hj; omega
/-- a block in a variable -/
def BoxT (w : World) (b : Nat) (x : Taken) : Prop := w.heap[b]? = some (.cells #[.int .i64 x.line, .int .i64 x.cls] 29 (0, 0))
theorem OrdIn.slot {F : Nat → Prop} {w W w3 : World} {ob k : Nat} {lv : Nat → List Taken} {A : Nat → Option Addr} {c : Nat → Nat} (h : OrdIn F w ob lv A c) (hk : k < 5) (hW : Below w.heap.size w W) (hgr : W.grownBy w3 (rowOf (A k) (c k))) : w3.heap[ob]? = w.heap[ob]? :=
  (hgr.block ob (Nat.lt_of_lt_of_le h.lt hW.size) fun hr => ((h.own k hk).row (h.lies k hk) ob hr.symm).2 rfl).trans (hW.block ob h.lt)
theorem OrdIn.rooms {F : Nat → Prop} {w : World} {ob : Nat} {lv : Nat → List Taken} {A : Nat → Option Addr} {c : Nat → Nat} (h : OrdIn F w ob lv A c) (hf : ∀ i, i < 5 → (lv i).length ≤ 1000) (hi : ∀ i, i < 5 → ∀ x ∈ lv i, InR x) : RoomsIn w w.heap.size A c lv :=
  ⟨fun i hi => (h.own i hi).arr Taken.enc_len, fun i hi => (h.own i hi).len, fun i hi => (h.own i hi).max, hf, hi⟩
/-- rooms in a variable -/
def RoomBox (w : World) (b : Nat) (A : Nat → Option Addr) (c : Nat → Nat) (l : Nat → List Taken) : Prop := w.heap[b]? = some (.cells #[.slice (A 0) (l 0).length (c 0), .slice (A 1) (l 1).length (c 1), .slice (A 2) (l 2).length (c 2), .slice (A 3) (l 3).length (c 3), .slice (A 4) (l 4).length (c 4)] 26 (0, 0))
theorem parted_yes {l : Nat → List Taken} {b : Bool} (h : b = true ↔ (∀ x, bal l 4 x = 0) ∧ overlapB (l 0) = false) (h1 : ∀ x, bal l 4 x = 0) (h2 : overlapB (l 0) = false) : b = true := h.2 ⟨h1, h2⟩
theorem parted_no {l : Nat → List Taken} {b : Bool} (h : b = true ↔ (∀ x, bal l 4 x = 0) ∧ overlapB (l 0) = false) {x : Taken} (h1 : bal l 4 x ≠ 0) : b = false := by
  cases b with
  | false => rfl
  | true => exact absurd ((h.1 rfl).1 x) h1
/-- one more block at the end of list k -/
theorem put_one {F : Nat → Prop} {w W w3 : World} {ob k vb : Nat} {lv : Nat → List Taken} {A : Nat → Option Addr} {c : Nat → Nat} {x : Taken} (h : OrdIn F w ob lv A c) (h0 : F ob) (hk : k < 5) (hF : ∀ j, w.heap.size ≤ j → F j) (hW : Below w.heap.size w W)
    (hv : BoxT W vb x) (hvb : vb ≠ ob) (hvw : w.heap.size ≤ vb) (hvl : vb < W.heap.size) {A' : Option Addr} {c' n : Nat} (hown : Own Taken.enc 29 2 w3 0 A' c' (lv k ++ [x])) (hgr : W.grownBy w3 (rowOf (A k) (c k))) (hn : n = (lv k).length + 1)
    (hloc : A' = A k ∧ c' = c k ∨ ∃ g, A' = some ⟨g, 0, none⟩ ∧ W.heap.size ≤ g) :
    Ord F (w3.setCell ⟨ob, k, none⟩ (.slice A' n c')) ob (upd lv k (lv k ++ [x])) ∧ Only F w (w3.setCell ⟨ob, k, none⟩ (.slice A' n c')) ∧ BoxT (w3.setCell ⟨ob, k, none⟩ (.slice A' n c')) vb x ∧ vb < (w3.setCell ⟨ob, k, none⟩ (.slice A' n c')).heap.size := by
  obtain ⟨r1, r2⟩ := h.put h0 hk hF hW hgr hown (show n = (lv k ++ [x]).length by rw [hn]; simp) hloc
  refine ⟨r1, r2, (Below.heap_setCell _ _ _ _ hvb).trans ((hgr.block vb hvl fun hr => ?_).trans hv), ?_⟩
  · have := row_lt (h.own k hk) hr.symm
    omega
  · have := hgr.size
    simp
    omega
theorem keepP {W W' : World} {rb bt o1 o2 : Nat} {u0 u4 v0 v1 : Value} (hb : Below W.heap.size W W') (h1 : rb < W.heap.size) (h2 : bt < W.heap.size)
    (h : W.cell? ⟨rb, 0, none⟩ = some u0 ∧ W.cell? ⟨rb, 4, none⟩ = some u4 ∧ W.cell? ⟨bt, o1, none⟩ = some v0 ∧ W.cell? ⟨bt, o2, none⟩ = some v1) :
    W'.cell? ⟨rb, 0, none⟩ = some u0 ∧ W'.cell? ⟨rb, 4, none⟩ = some u4 ∧ W'.cell? ⟨bt, o1, none⟩ = some v0 ∧ W'.cell? ⟨bt, o2, none⟩ = some v1 := by
  rw [hb.cell (p := ⟨rb, 0, none⟩) h1, hb.cell (p := ⟨rb, 4, none⟩) h1, hb.cell (p := ⟨bt, o1, none⟩) h2, hb.cell (p := ⟨bt, o2, none⟩) h2]
  exact h
theorem keepS {W : World} {rb bt mb j o1 o2 : Nat} {u u0 u4 v0 v1 : Value} (h : W.cell? ⟨rb, 0, none⟩ = some u0 ∧ W.cell? ⟨rb, 4, none⟩ = some u4 ∧ W.cell? ⟨bt, o1, none⟩ = some v0 ∧ W.cell? ⟨bt, o2, none⟩ = some v1) (h1 : rb ≠ mb) (h2 : bt ≠ mb) :
    (W.setCell ⟨mb, j, none⟩ u).cell? ⟨rb, 0, none⟩ = some u0 ∧ (W.setCell ⟨mb, j, none⟩ u).cell? ⟨rb, 4, none⟩ = some u4 ∧ (W.setCell ⟨mb, j, none⟩ u).cell? ⟨bt, o1, none⟩ = some v0 ∧ (W.setCell ⟨mb, j, none⟩ u).cell? ⟨bt, o2, none⟩ = some v1 := by
  have e : ∀ b o, b ≠ mb → (W.setCell ⟨mb, j, none⟩ u).cell? ⟨b, o, none⟩ = W.cell? ⟨b, o, none⟩ := fun b o hb => World.cell?_setCell_other _ _ _ _ (by intro e; injection e with e; exact hb e.symm)
  rw [e _ _ h1, e _ _ h1, e _ _ h2, e _ _ h2]
  exact h
theorem keepS1 {W : World} {rb mb j : Nat} {u u0 : Value} (h : W.cell? ⟨rb, 0, none⟩ = some u0) (h1 : rb ≠ mb) : (W.setCell ⟨mb, j, none⟩ u).cell? ⟨rb, 0, none⟩ = some u0 :=
  (World.cell?_setCell_other _ _ _ _ (by intro e; injection e with e; exact h1 e.symm)).trans h
theorem belowN {lo : Nat} {w W W' : World} {A : Option Addr} (hg : W.grownBy W' (rowOf A 0)) (h : Below lo w W) (hlo : lo ≤ W.heap.size) : Below lo w W' := h.grown hg hlo (fun k hk => by simp [rowOf] at hk)
theorem own_row {w : World} {lo : Nat} {A : Option Addr} {c : Nat} {l : List Taken} (h : Own Taken.enc 29 2 w lo A c l) {j : Nat} (hj : some j = rowOf A c ∨ rowOf A c = some j) : lo ≤ j := by
  unfold rowOf at hj
  rcases h.lt with h0 | ⟨b, off, rfl, hlo, _⟩
  · rw [if_pos h0] at hj; simp at hj
  · split at hj
    · simp at hj
    · simp at hj; omega
set_option maxHeartbeats 8000000 in
set_option maxRecDepth 100000 in
theorem auditParts_any (cls deal : List Int) (CA DA : Option Addr) (cc dc : Nat) (which : Int) (w : World) (hC : IntsIn w w.heap.size CA cc cls) (hD : IntsIn w w.heap.size DA dc deal) :
    Calls Try.prog 3 #[.slice CA cls.length cc, .slice DA deal.length dc, .int .i64 which] w fun e w' => e = .returned (.bool true) ∧ Below w.heap.size w w' := by
  have HC := hid hC
  have HD := hid hD
  have hcl := hC.len
  have hcm := hC.max
  have hdl := hD.len
  have hdm := hD.max
  clear hC hD
  by_cases hsm : cls.length ≤ 30
  case neg =>
    have hsm2 : (30 : Int) < (cls.length : Int) := by omega
    go_enter Try.func3, Try.ntmps3
    go_wp2_with fail
    refine (awake26 _).mono ?_
    rintro e w4 ⟨rfl, hb4⟩
    go_wp2
    go_ret
    exact ⟨rfl, hb4⟩
  go_enter Try.func3, Try.ntmps3
  go_wp2_with fail
  go_loopw [8, 9] (fun v8 v9 wr => ∃ n : Nat, n ≤ cls.length ∧ v8 = .int .i64 (2 + 8 * (n : Int)) ∧ v9 = .int .i64 n ∧ Ord (fun j => w.heap.size ≤ j) wr w.heap.size (dealt cls deal n) ∧ Below w.heap.size w wr) (fun _ v9 _ => cls.length - (intOf v9).toNat)
  case atStart =>
    refine ⟨0, Nat.zero_le _, rfl, rfl, ⟨Nat.le_refl _, fun _ => none, fun _ => 0, ⟨fun i hi => ?_, fun i => ?_, fun _ _ => Own.none_, fun _ _ => .inl rfl, fun _ _ _ _ _ _ _ _ _ _ => .inl rfl⟩⟩, (by repeat (first | exact Below.refl _ _ | assumption | refine Below.drew ?_ | refine below_drewN ?_ _ | refine Below.alloc ?_ (by first | omega | (simp; done) | (simp; omega)) _ | refine Below.setCell ?_ (by first | omega | (simp; done) | (simp; omega)) _))⟩
    · rw [World.cell?_alloc_at _ _ _ i rfl]
      rcases (by omega : i = 0 ∨ i = 1 ∨ i = 2 ∨ i = 3 ∨ i = 4) with rfl | rfl | rfl | rfl | rfl <;> rfl
    · exact World.frozen?_alloc_at _ _ _ i rfl
  case round =>
    obtain ⟨n, hnl, rfl, rfl, hord, hbw⟩ := hrel
    have hsz := hbw.size
    have hrb := hord.lt
    by_cases hlt : n < cls.length
    · obtain ⟨b, off, rfl, hB, k0⟩ := (HC.out.arr.below hbw).int hlt
      have HL0 := hid (fun W => low_any cls[n] 4 (by omega) (by omega) W)
      have hx : blockAt cls n = ⟨2 + 8 * (n : Int), low cls[n] 4⟩ := by unfold blockAt; rw [getD_in hlt]
      have HX := hid hx
      have hll := dealt_len cls deal n
      have HLL := hid hll
      obtain ⟨lv, hlv⟩ : ∃ lv, lv = dealt cls deal n := ⟨_, rfl⟩
      rw [← hlv] at hord HLL
      have HLV := hid hlv
      obtain ⟨hF0, A, c, hin⟩ := hord
      have c0 := hin.cell 0 (by omega)
      have f0 := hin.frz 0
      have HIN := hid hin
      have HO0 := hid (hin.own 0 (by omega))
      obtain ⟨lw, hlw⟩ : ∃ lw, lw = low cls[n] 4 := ⟨_, rfl⟩
      rw [← hlw] at HL0 HX
      clear hin hlw hlv hx hll
      go_upto_region 11 with (first | (go_at_call 5; refine (HL0.out _).mono ?_; rintro e wL ⟨rfl, rfl⟩) | (at_builtin; refine app_taken (l := lv 0) (m := [(⟨2 + 8 * (n : Int), lw⟩ : Taken)]) (A := A 0) (c := c 0) (lo := 0) _ rfl (.tmp 35) (.tmp 37) (by first | rfl | simp [Act.eval]) rfl ((HO0.out.alloc _).alloc _) 1 rfl (arr_oneT (x := ⟨2 + 8 * (n : Int), lw⟩) (row_at (by simp))) (by have := HLL.out 0; simp; omega) (Nat.zero_le _) ?_; intro A3 c3 w3 hown3 hgr3 hloc3; have hs3 := hgr3.size; have hb3 := HIN.out.slot (by omega) (by repeat (first | exact Below.refl _ _ | assumption | refine Below.drew ?_ | refine below_drewN ?_ _ | refine Below.alloc ?_ (by first | omega | (simp; done) | (simp; omega)) _ | refine Below.setCell ?_ (by first | omega | (simp; done) | (simp; omega)) _)) hgr3; have q0 := (cell_same_block (p := ⟨w.heap.size, 0, none⟩) hb3).trans c0; have g0 := (frozen_same_block (p := ⟨w.heap.size, 0, none⟩) hb3).trans f0))
      obtain ⟨p1, p2, p3, p4⟩ := put_one (x := ⟨2 + 8 * (n : Int), lw⟩) HIN.out hF0 (by omega) (fun j hj => by omega) (by repeat (first | exact Below.refl _ _ | assumption | refine Below.drew ?_ | refine below_drewN ?_ _ | refine Below.alloc ?_ (by first | omega | (simp; done) | (simp; omega)) _ | refine Below.setCell ?_ (by first | omega | (simp; done) | (simp; omega)) _)) (vb := wr.heap.size) ((Below.heap_alloc _ _ _ (by simp)).trans (row_new _ _ _)) (by omega) (Nat.le_refl _) (by simp; omega) hown3 hgr3 rfl hloc3
      obtain ⟨wq, hwq⟩ : ∃ wq, wq = w3.setCell ⟨w.heap.size, 0, none⟩ (.slice A3 ((lv 0).length + 1) c3) := ⟨_, rfl⟩
      rw [← hwq] at p1 p2 p3 p4 ⊢
      have bwq : Below w.heap.size w wq := hbw.trans (p2.below (fun j hj => hj) hsz)
      have HX2 : Hid (blockAt cls n = ⟨2 + 8 * (n : Int), lw⟩) := HX
      obtain ⟨lv1, hlv1⟩ : ∃ lv1, lv1 = upd lv 0 (lv 0 ++ [(⟨2 + 8 * (n : Int), lw⟩ : Taken)]) := ⟨_, rfl⟩
      rw [← hlv1] at p1
      have HLV1 := hid hlv1
      have hl1 : ∀ q, (lv1 q).length ≤ n + 1 := fun q => by
        have := HLL.out q
        have := HLL.out 0
        rw [hlv1, upd]
        split
        · simp; omega
        · omega
      have HL1L := hid hl1
      obtain ⟨hF1, A1, c1, hin1⟩ := p1
      have HIN1 := hid hin1
      have y0 := cell_of_row wq _ 0 _ _ _ p3
      have y1 := cell_of_row wq _ 1 _ _ _ p3
      simp at y0 y1
      have hzq := bwq.size
      obtain ⟨K, hK⟩ : ∃ K, K = kind deal n := ⟨_, rfl⟩
      have hK4 : K < 4 := by rw [hK]; exact kind_lt _ _
      have HDE := hid (show dealt cls deal (n + 1) = upd lv1 (K + 1) (lv1 (K + 1) ++ [(⟨2 + 8 * (n : Int), lw⟩ : Taken)]) by
        rw [dealt_succ, ← HLV.out, HX.out, ← hlv1, ← hK]
        congr 1
        rw [hlv1, upd, if_neg (by omega)])
      have HP := hid (And.intro p2 (And.intro p3 p4))
      have hrb1 := hin1.lt
      clear p2 p3 hin1 hwq hgr3 hown3 hloc3 q0 g0 hb3 hs3 c0 f0 k0 hlv1 hl1
      by_cases hdn : n < deal.length
      · obtain ⟨bd, od, rfl, hBd, d0⟩ := (HD.out.arr.below bwq).int hdn
        have hlk : low deal[n] 4 = (K : Int) := by
          have h0 := low_lo deal[n] 4 (by omega)
          rw [hK, kind, if_pos hdn, getD_in hdn]
          omega
        have hL1 := fun W => low_any deal[n] 4 (by omega) (by omega) W
        rw [hlk] at hL1
        have HL1 := hid hL1
        have hdn2 : (n : Int) < (deal.length : Int) := by omega
        clear hL1 hlk hK
        rcases (by omega : K = 0 ∨ K = 1 ∨ K = 2 ∨ K = 3) with rfl | rfl | rfl | rfl
        · have c2 := HIN1.out.cell 1 (by omega)
          have f2 := HIN1.out.frz 1
          have HO1 := hid (HIN1.out.own 1 (by omega))
          go_wp2_with (first | (go_at_call 5; refine (HL1.out _).mono ?_; rintro e wL ⟨rfl, rfl⟩) | (at_builtin; refine app_taken (l := lv1 1) (m := [(⟨2 + 8 * (n : Int), lw⟩ : Taken)]) (A := A1 1) (c := c1 1) (lo := 0) _ rfl (.tmp 59) (.tmp 61) (by first | rfl | simp [Act.eval]) rfl (HO1.out.alloc _) 1 rfl (arr_oneT (x := ⟨2 + 8 * (n : Int), lw⟩) (row_new _ _ _)) (by have := HL1L.out 1; simp; omega) (Nat.zero_le _) ?_; intro A4 c4 w4 hown4 hgr4 hloc4; have hs4 := hgr4.size; have hb4 := HIN1.out.slot (by omega) (by repeat (first | exact Below.refl _ _ | assumption | refine Below.drew ?_ | refine below_drewN ?_ _ | refine Below.alloc ?_ (by first | omega | (simp; done) | (simp; omega)) _ | refine Below.setCell ?_ (by first | omega | (simp; done) | (simp; omega)) _)) hgr4; have q1 := (cell_same_block (p := ⟨w.heap.size, 1, none⟩) hb4).trans c2; have g1 := (frozen_same_block (p := ⟨w.heap.size, 1, none⟩) hb4).trans f2))
          go_roundw
          case rel =>
            obtain ⟨r1, r2⟩ := HIN1.out.put hF1 (show 1 < 5 by omega) (fun j hj => by omega) (W := wq.alloc _) (by repeat (first | exact Below.refl _ _ | assumption | refine Below.drew ?_ | refine below_drewN ?_ _ | refine Below.alloc ?_ (by first | omega | (simp; done) | (simp; omega)) _ | refine Below.setCell ?_ (by first | omega | (simp; done) | (simp; omega)) _)) hgr4 hown4 (n := (lv1 1).length + 1) (by simp) hloc4
            exact ⟨n + 1, by omega, by go_num, by go_num, by rw [HDE.out]; exact r1, bwq.trans (r2.below (fun j hj => hj) hzq)⟩
          case measure => simp [intOf]; omega
        · have c2 := HIN1.out.cell 2 (by omega)
          have f2 := HIN1.out.frz 2
          have HO1 := hid (HIN1.out.own 2 (by omega))
          go_wp2_with (first | (go_at_call 5; refine (HL1.out _).mono ?_; rintro e wL ⟨rfl, rfl⟩) | (at_builtin; refine app_taken (l := lv1 2) (m := [(⟨2 + 8 * (n : Int), lw⟩ : Taken)]) (A := A1 2) (c := c1 2) (lo := 0) _ rfl (.tmp 67) (.tmp 69) (by first | rfl | simp [Act.eval]) rfl (HO1.out.alloc _) 1 rfl (arr_oneT (x := ⟨2 + 8 * (n : Int), lw⟩) (row_new _ _ _)) (by have := HL1L.out 2; simp; omega) (Nat.zero_le _) ?_; intro A4 c4 w4 hown4 hgr4 hloc4; have hs4 := hgr4.size; have hb4 := HIN1.out.slot (by omega) (by repeat (first | exact Below.refl _ _ | assumption | refine Below.drew ?_ | refine below_drewN ?_ _ | refine Below.alloc ?_ (by first | omega | (simp; done) | (simp; omega)) _ | refine Below.setCell ?_ (by first | omega | (simp; done) | (simp; omega)) _)) hgr4; have q1 := (cell_same_block (p := ⟨w.heap.size, 2, none⟩) hb4).trans c2; have g1 := (frozen_same_block (p := ⟨w.heap.size, 2, none⟩) hb4).trans f2))
          go_roundw
          case rel =>
            obtain ⟨r1, r2⟩ := HIN1.out.put hF1 (show 2 < 5 by omega) (fun j hj => by omega) (W := wq.alloc _) (by repeat (first | exact Below.refl _ _ | assumption | refine Below.drew ?_ | refine below_drewN ?_ _ | refine Below.alloc ?_ (by first | omega | (simp; done) | (simp; omega)) _ | refine Below.setCell ?_ (by first | omega | (simp; done) | (simp; omega)) _)) hgr4 hown4 (n := (lv1 2).length + 1) (by simp) hloc4
            exact ⟨n + 1, by omega, by go_num, by go_num, by rw [HDE.out]; exact r1, bwq.trans (r2.below (fun j hj => hj) hzq)⟩
          case measure => simp [intOf]; omega
        · have c2 := HIN1.out.cell 3 (by omega)
          have f2 := HIN1.out.frz 3
          have HO1 := hid (HIN1.out.own 3 (by omega))
          go_wp2_with (first | (go_at_call 5; refine (HL1.out _).mono ?_; rintro e wL ⟨rfl, rfl⟩) | (at_builtin; refine app_taken (l := lv1 3) (m := [(⟨2 + 8 * (n : Int), lw⟩ : Taken)]) (A := A1 3) (c := c1 3) (lo := 0) _ rfl (.tmp 75) (.tmp 77) (by first | rfl | simp [Act.eval]) rfl (HO1.out.alloc _) 1 rfl (arr_oneT (x := ⟨2 + 8 * (n : Int), lw⟩) (row_new _ _ _)) (by have := HL1L.out 3; simp; omega) (Nat.zero_le _) ?_; intro A4 c4 w4 hown4 hgr4 hloc4; have hs4 := hgr4.size; have hb4 := HIN1.out.slot (by omega) (by repeat (first | exact Below.refl _ _ | assumption | refine Below.drew ?_ | refine below_drewN ?_ _ | refine Below.alloc ?_ (by first | omega | (simp; done) | (simp; omega)) _ | refine Below.setCell ?_ (by first | omega | (simp; done) | (simp; omega)) _)) hgr4; have q1 := (cell_same_block (p := ⟨w.heap.size, 3, none⟩) hb4).trans c2; have g1 := (frozen_same_block (p := ⟨w.heap.size, 3, none⟩) hb4).trans f2))
          go_roundw
          case rel =>
            obtain ⟨r1, r2⟩ := HIN1.out.put hF1 (show 3 < 5 by omega) (fun j hj => by omega) (W := wq.alloc _) (by repeat (first | exact Below.refl _ _ | assumption | refine Below.drew ?_ | refine below_drewN ?_ _ | refine Below.alloc ?_ (by first | omega | (simp; done) | (simp; omega)) _ | refine Below.setCell ?_ (by first | omega | (simp; done) | (simp; omega)) _)) hgr4 hown4 (n := (lv1 3).length + 1) (by simp) hloc4
            exact ⟨n + 1, by omega, by go_num, by go_num, by rw [HDE.out]; exact r1, bwq.trans (r2.below (fun j hj => hj) hzq)⟩
          case measure => simp [intOf]; omega
        · have c2 := HIN1.out.cell 4 (by omega)
          have f2 := HIN1.out.frz 4
          have HO1 := hid (HIN1.out.own 4 (by omega))
          go_wp2_with (first | (go_at_call 5; refine (HL1.out _).mono ?_; rintro e wL ⟨rfl, rfl⟩) | (at_builtin; refine app_taken (l := lv1 4) (m := [(⟨2 + 8 * (n : Int), lw⟩ : Taken)]) (A := A1 4) (c := c1 4) (lo := 0) _ rfl (.tmp 51) (.tmp 53) (by first | rfl | simp [Act.eval]) rfl (HO1.out.alloc _) 1 rfl (arr_oneT (x := ⟨2 + 8 * (n : Int), lw⟩) (row_new _ _ _)) (by have := HL1L.out 4; simp; omega) (Nat.zero_le _) ?_; intro A4 c4 w4 hown4 hgr4 hloc4; have hs4 := hgr4.size; have hb4 := HIN1.out.slot (by omega) (by repeat (first | exact Below.refl _ _ | assumption | refine Below.drew ?_ | refine below_drewN ?_ _ | refine Below.alloc ?_ (by first | omega | (simp; done) | (simp; omega)) _ | refine Below.setCell ?_ (by first | omega | (simp; done) | (simp; omega)) _)) hgr4; have q1 := (cell_same_block (p := ⟨w.heap.size, 4, none⟩) hb4).trans c2; have g1 := (frozen_same_block (p := ⟨w.heap.size, 4, none⟩) hb4).trans f2))
          go_roundw
          case rel =>
            obtain ⟨r1, r2⟩ := HIN1.out.put hF1 (show 4 < 5 by omega) (fun j hj => by omega) (W := wq.alloc _) (by repeat (first | exact Below.refl _ _ | assumption | refine Below.drew ?_ | refine below_drewN ?_ _ | refine Below.alloc ?_ (by first | omega | (simp; done) | (simp; omega)) _ | refine Below.setCell ?_ (by first | omega | (simp; done) | (simp; omega)) _)) hgr4 hown4 (n := (lv1 4).length + 1) (by simp) hloc4
            exact ⟨n + 1, by omega, by go_num, by go_num, by rw [HDE.out]; exact r1, bwq.trans (r2.below (fun j hj => hj) hzq)⟩
          case measure => simp [intOf]; omega
      · have hk0 : K = 0 := by rw [hK, kind, if_neg hdn]
        subst hk0
        have hdn2 : (deal.length : Int) ≤ (n : Int) := by omega
        clear hK
        · have c2 := HIN1.out.cell 1 (by omega)
          have f2 := HIN1.out.frz 1
          have HO1 := hid (HIN1.out.own 1 (by omega))
          go_wp2_with (at_builtin; refine app_taken (l := lv1 1) (m := [(⟨2 + 8 * (n : Int), lw⟩ : Taken)]) (A := A1 1) (c := c1 1) (lo := 0) _ rfl (.tmp 59) (.tmp 61) (by first | rfl | simp [Act.eval]) rfl (HO1.out.alloc _) 1 rfl (arr_oneT (x := ⟨2 + 8 * (n : Int), lw⟩) (row_new _ _ _)) (by have := HL1L.out 1; simp; omega) (Nat.zero_le _) ?_; intro A4 c4 w4 hown4 hgr4 hloc4; have hs4 := hgr4.size; have hb4 := HIN1.out.slot (by omega) (by repeat (first | exact Below.refl _ _ | assumption | refine Below.drew ?_ | refine below_drewN ?_ _ | refine Below.alloc ?_ (by first | omega | (simp; done) | (simp; omega)) _ | refine Below.setCell ?_ (by first | omega | (simp; done) | (simp; omega)) _)) hgr4; have q1 := (cell_same_block (p := ⟨w.heap.size, 1, none⟩) hb4).trans c2; have g1 := (frozen_same_block (p := ⟨w.heap.size, 1, none⟩) hb4).trans f2)
          go_roundw
          case rel =>
            obtain ⟨r1, r2⟩ := HIN1.out.put hF1 (show 1 < 5 by omega) (fun j hj => by omega) (W := wq.alloc _) (by repeat (first | exact Below.refl _ _ | assumption | refine Below.drew ?_ | refine below_drewN ?_ _ | refine Below.alloc ?_ (by first | omega | (simp; done) | (simp; omega)) _ | refine Below.setCell ?_ (by first | omega | (simp; done) | (simp; omega)) _)) hgr4 hown4 (n := (lv1 1).length + 1) (by simp) hloc4
            exact ⟨n + 1, by omega, by go_num, by go_num, by rw [HDE.out]; exact r1, bwq.trans (r2.below (fun j hj => hj) hzq)⟩
          case measure => simp [intOf]; omega
    · have hn : n = cls.length := by omega
      subst hn
      have HYES := hid (And.intro (fun x => dealt_bal cls deal x cls.length) (dealt_apart cls deal (n := cls.length) (by omega)))
      have HINR := hid (fun i => dealt_inr cls deal (n := cls.length) (by omega) i)
      have HLEN := hid (dealt_len cls deal cls.length)
      have HZ := hid (show (dealt cls deal cls.length 0).length = cls.length by rw [dealt_zero]; simp)
      obtain ⟨L, hL⟩ : ∃ L, L = dealt cls deal cls.length := ⟨_, rfl⟩
      rw [← hL] at hord HYES HINR HLEN HZ
      clear hL
      obtain ⟨hF0, A, c, hin⟩ := hord
      have c0 := hin.cell 0 (by omega)
      have c1 := hin.cell 1 (by omega)
      have c2 := hin.cell 2 (by omega)
      have c3 := hin.cell 3 (by omega)
      have c4 := hin.cell 4 (by omega)
      have HRM := hid (hin.rooms (fun i _ => by have := HLEN.out i; omega) (fun i _ => HINR.out i))
      have HIN := hid hin
      clear hin
      go_wp2_with fail
      refine (parted_any A c L _ HRM.out).mono ?_
      rintro e wz ⟨bz, rfl, hiff, hbz⟩
      obtain rfl := parted_yes hiff HYES.out.1 HYES.out.2
      have zz := hbz.size
      have bwz : Below w.heap.size w wz := hbw.trans (hbz.mono hsz)
      have d0 := (hbz.cell (p := ⟨w.heap.size, 0, none⟩) hrb).trans c0
      have d1 := (hbz.cell (p := ⟨w.heap.size, 1, none⟩) hrb).trans c1
      have d2 := (hbz.cell (p := ⟨w.heap.size, 2, none⟩) hrb).trans c2
      have d3 := (hbz.cell (p := ⟨w.heap.size, 3, none⟩) hrb).trans c3
      have d4 := (hbz.cell (p := ⟨w.heap.size, 4, none⟩) hrb).trans c4
      have HRZ := hid ((HRM.out.below hbz))
      clear hiff hbz c0 c1 c2 c3 c4
      by_cases h0 : cls.length = 0
      · go_wp2_with fail
        refine (awake26 _).mono ?_
        rintro e w4 ⟨rfl, hb4⟩
        go_wp2
        go_ret
        exact ⟨rfl, bwz.trans (hb4.mono bwz.size)⟩
      · have hpos : (0 : Int) < (cls.length : Int) := by omega
        go_upto_region 26 with fail
        have hlo := low_lo which ((L 0).length : Int) (by have := HZ.out; omega)
        have hhi := low_hi which ((L 0).length : Int) (by have := HZ.out; omega)
        obtain ⟨k, hk⟩ : ∃ k : Nat, low which ((L 0).length : Int) = (k : Int) := ⟨(low which ((L 0).length : Int)).toNat, by omega⟩
        have hkl : k < (L 0).length := by omega
        have hLow := fun W => low_any which ((L 0).length : Int) (by have := HZ.out; omega) (by have := HZ.out; omega) W
        rw [hk] at hLow
        have HLOW := hid hLow
        clear hLow hlo hhi hk
        obtain ⟨bt, ot, hA0, hBt, t0, t1⟩ := (HRZ.out.arr 0 (by omega)).taken hkl
        obtain ⟨x, hx⟩ : ∃ x, x = (L 0)[k] := ⟨_, rfl⟩
        have HXK := hid hx
        rw [← hx] at t0 t1
        rw [hA0] at d0 ⊢
        have hkl2 : (k : Int) < ((L 0).length : Int) := by omega
        obtain ⟨wm, hwm⟩ : ∃ wm, wm = wz.alloc (.cells #[.slice (some ⟨bt, ot, none⟩) (L 0).length (c 0), .slice (A 1) (L 1).length (c 1), .slice (A 2) (L 2).length (c 2), .slice (A 3) (L 3).length (c 3), .slice (A 4) (L 4).length (c 4)] 26) := ⟨_, rfl⟩
        rw [← hwm]
        have bzm : Below wz.heap.size wz wm := by rw [hwm]; exact (by repeat (first | exact Below.refl _ _ | assumption | refine Below.drew ?_ | refine below_drewN ?_ _ | refine Below.alloc ?_ (by first | omega | (simp; done) | (simp; omega)) _ | refine Below.setCell ?_ (by first | omega | (simp; done) | (simp; omega)) _))
        have hzm : wm.heap.size = wz.heap.size + 1 := by rw [hwm]; simp
        have hmb : wm.heap[wz.heap.size]? = some (.cells #[.slice (some ⟨bt, ot, none⟩) (L 0).length (c 0), .slice (A 1) (L 1).length (c 1), .slice (A 2) (L 2).length (c 2), .slice (A 3) (L 3).length (c 3), .slice (A 4) (L 4).length (c 4)] 26 (0, 0)) := by rw [hwm]; exact row_new _ _ _
        have hbt : bt < wm.heap.size := by omega
        have hrbm : w.heap.size < wm.heap.size := by omega
        have hall : wm.cell? ⟨w.heap.size, 0, none⟩ = some (.slice (some ⟨bt, ot, none⟩) (L 0).length (c 0)) ∧ wm.cell? ⟨w.heap.size, 4, none⟩ = some (.slice (A 4) (L 4).length (c 4)) ∧ wm.cell? ⟨bt, ot + k * 2, none⟩ = some (.int .i64 x.line) ∧ wm.cell? ⟨bt, ot + k * 2 + 1, none⟩ = some (.int .i64 x.cls) :=
          ⟨(bzm.cell (p := ⟨w.heap.size, 0, none⟩) (show w.heap.size < wz.heap.size by omega)).trans d0, (bzm.cell (p := ⟨w.heap.size, 4, none⟩) (show w.heap.size < wz.heap.size by omega)).trans d4, (bzm.cell (p := ⟨bt, _, none⟩) (show bt < wz.heap.size by omega)).trans t0, (bzm.cell (p := ⟨bt, _, none⟩) (show bt < wz.heap.size by omega)).trans t1⟩
        have ha4 := ((HRZ.out.arr 4 (by omega)).below (bzm.mono zz)).more (show wr.heap.size ≤ wm.heap.size by omega)
        have HA4 := hid (fun (W : World) (hb : Below wm.heap.size wm W) => ha4.below hb)
        clear ha4
        have hl4 := HLEN.out 4
        have HMB := hid hmb
        have HD5 := hid (And.intro d0 (And.intro d1 (And.intro d2 (And.intro d3 d4))))
        have HT01 := hid (And.intro t0 t1)
        clear t0 t1 hx hwm hmb d0 d1 d2 d3 d4
        go_cut [] (fun wx => ∃ A4 c4, wx.heap[wz.heap.size]? = some (.cells #[.slice (some ⟨bt, ot, none⟩) (L 0).length (c 0), .slice (A 1) (L 1).length (c 1), .slice (A 2) (L 2).length (c 2), .slice (A 3) (L 3).length (c 3), .slice A4 (L 4 ++ [x]).length c4] 26 (0, 0)) ∧ Arr Taken.enc 2 wx wx.heap.size A4 (L 4 ++ [x]) ∧ (L 4 ++ [x]).length ≤ c4 ∧ c4 ≤ 9223372036854775807 ∧ Below wz.heap.size wz wx)
        case first =>
          obtain ⟨h01, h02, h03, h04⟩ := hall
          have hall := hid (And.intro h01 (And.intro h02 (And.intro h03 h04)))
          go_region_held3 (fun W => W.cell? ⟨w.heap.size, 0, none⟩ = some (.slice (some ⟨bt, ot, none⟩) (L 0).length (c 0)) ∧ W.cell? ⟨w.heap.size, 4, none⟩ = some (.slice (A 4) (L 4).length (c 4)) ∧ W.cell? ⟨bt, ot + k * 2, none⟩ = some (.int .i64 x.line) ∧ W.cell? ⟨bt, ot + k * 2 + 1, none⟩ = some (.int .i64 x.cls)) (first | (with_reducible refine keepS (keepP (W := wm) hb3 hrbm hbt hall.out) (by omega) (by omega)) | exact keepP (W := wm) (by repeat (first | with_reducible exact Below.refl _ _ | with_reducible assumption | with_reducible refine Below.drew ?_ | with_reducible refine below_drewN ?_ _ | with_reducible refine Below.alloc ?_ (by first | omega | (simp; done) | (simp; omega)) _ | with_reducible refine Below.setCell ?_ (by first | omega | (simp; done) | (simp; omega)) _)) hrbm hbt hall.out | go_keep) (first | (go_at_call 5; refine (HLOW.out _).mono ?_; rintro e wL ⟨rfl, rfl⟩) | (refine step_taken (l := []) (m := L 4) (A := none) (c := 0) (lo := wm.heap.size) _ (by rfl) (.const (.slice none 0 0)) (.tmp 88) (by rfl) (by rfl) Own.none_ (c 4) (by rfl) (HA4.out _ (by repeat (first | with_reducible exact Below.refl _ _ | with_reducible assumption | with_reducible refine Below.drew ?_ | with_reducible refine below_drewN ?_ _ | with_reducible refine Below.alloc ?_ (by first | omega | (simp; done) | (simp; omega)) _ | with_reducible refine Below.setCell ?_ (by first | omega | (simp; done) | (simp; omega)) _))) (by rw [List.length_nil]; omega) (by first | (simp; done) | (simp; omega) | omega) ?_; intro AP cP wP hownP hgrP hlocP; rw [List.nil_append] at hownP; have hbP : Below wm.heap.size wm wP := belowN hgrP (by repeat (first | with_reducible exact Below.refl _ _ | with_reducible assumption | with_reducible refine Below.drew ?_ | with_reducible refine below_drewN ?_ _ | with_reducible refine Below.alloc ?_ (by first | omega | (simp; done) | (simp; omega)) _ | with_reducible refine Below.setCell ?_ (by first | omega | (simp; done) | (simp; omega)) _)) (by first | (simp; done) | (simp; omega) | omega); have hzP := hbP.size) | (refine step_taken (l := L 4) (m := [x]) (A := AP) (c := cP) (lo := wm.heap.size) _ (by rfl) (.tmp 89) (.tmp 99) (by rfl) (by first | rfl | simp [Act.eval]) (by repeat (first | (with_reducible exact hownP) | (with_reducible refine Own.drew ?_) | (with_reducible refine Own.alloc ?_ _))) 1 (by first | rfl | simp [Act.eval]) (arr_oneX (x := x) (by first | (with_reducible exact row_new _ _ _) | (with_reducible exact row_at (by simp)) | ((with_reducible refine (hgrP.block _ (by first | (simp; done) | (simp; omega)) (by simp [rowOf])).trans ?_); exact row_at rfl))) (by simp; omega) (by first | exact hzP | (simp; done) | (simp; omega)) ?_; intro A3 c3 w3 hown3 hgr3 hloc3; have hb3 : Below wm.heap.size wm w3 := Below.grown (show Below wm.heap.size wm _ from (by repeat (first | with_reducible exact Below.refl _ _ | with_reducible assumption | with_reducible refine Below.drew ?_ | with_reducible refine below_drewN ?_ _ | with_reducible refine Below.alloc ?_ (by first | omega | (simp; done) | (simp; omega)) _ | with_reducible refine Below.setCell ?_ (by first | omega | (simp; done) | (simp; omega)) _))) hgr3 (by first | exact hbP.size | (simp; have := hbP.size; omega)) (fun j hj => own_row hownP (by first | exact .inl hj | exact .inr hj)); have hm3 := (hb3.block wz.heap.size (by omega)).trans HMB.out; have q4 := cell_of_row w3 _ 4 _ _ _ hm3; have g4 := frozen_of_row w3 _ 4 _ _ hm3) | fail)
          go_wp2_with fail
          go_meet
          refine ⟨A3, c3, ?_, ?_, hown3.len, hown3.max, ?_⟩
          · have := heap_setCell_same w3 wz.heap.size 4 _ _ (.slice A3 ((L 4).length + 1) c3) hm3
            simpa using this
          · exact (hown3.setCell (p := ⟨wz.heap.size, 4, none⟩) (by show wz.heap.size < wm.heap.size; omega) _).arr Taken.enc_len
          · exact (bzm.trans (hb3.mono (by omega))).setCell (Nat.le_refl _) _
        case rest =>
          obtain ⟨A4, c4, hmb, hArr4, hlen4, hmax4, bzx⟩ := hcut
          obtain ⟨wy, hwy⟩ : ∃ wy, wy = wc := ⟨_, rfl⟩
          subst hwy
          have zy := bzx.size
          obtain ⟨cT, hcT⟩ : ∃ cT, cT = c 0 := ⟨_, rfl⟩
          have hrz : w.heap.size < wz.heap.size := by omega
          obtain ⟨d0, d1, d2, d3, d4⟩ := HD5.out
          have e0 := (bzx.cell (p := ⟨w.heap.size, 0, none⟩) hrz).trans d0
          have e1 := (bzx.cell (p := ⟨w.heap.size, 1, none⟩) hrz).trans d1
          have e2 := (bzx.cell (p := ⟨w.heap.size, 2, none⟩) hrz).trans d2
          have e3 := (bzx.cell (p := ⟨w.heap.size, 3, none⟩) hrz).trans d3
          have e4 := (bzx.cell (p := ⟨w.heap.size, 4, none⟩) hrz).trans d4
          have hlT : (L 0).length ≤ cT := by rw [hcT]; exact HRZ.out.len 0 (by omega)
          have hmT : cT ≤ 9223372036854775807 := by rw [hcT]; exact HRZ.out.max 0 (by omega)
          have HHT := hid hcT
          have hrby : w.heap.size < wy.heap.size := by omega
          rw [← hcT] at e0
          clear hcT d0 d1 d2 d3 d4 hall
          go_upto_region 29 with (go_at_call 5; refine (HLOW.out _).mono ?_; rintro e wL ⟨rfl, rfl⟩)
          obtain ⟨wn, hwn⟩ : ∃ wn, wn = wy.alloc (.cells #[.slice (some ⟨bt, ot, none⟩) (L 0).length cT, .slice (A 1) (L 1).length (c 1), .slice (A 2) (L 2).length (c 2), .slice (A 3) (L 3).length (c 3), .slice (A 4) (L 4).length (c 4)] 26) := ⟨_, rfl⟩
          rw [← hwn]
          have bzn : Below wy.heap.size wy wn := by rw [hwn]; exact (by repeat (first | exact Below.refl _ _ | assumption | refine Below.drew ?_ | refine below_drewN ?_ _ | refine Below.alloc ?_ (by first | omega | (simp; done) | (simp; omega)) _ | refine Below.setCell ?_ (by first | omega | (simp; done) | (simp; omega)) _))
          have hzn : wn.heap.size = wy.heap.size + 1 := by rw [hwn]; simp
          have hnb : wn.heap[wy.heap.size]? = some (.cells #[.slice (some ⟨bt, ot, none⟩) (L 0).length cT, .slice (A 1) (L 1).length (c 1), .slice (A 2) (L 2).length (c 2), .slice (A 3) (L 3).length (c 3), .slice (A 4) (L 4).length (c 4)] 26 (0, 0)) := by rw [hwn]; exact row_new _ _ _
          have HNB := hid hnb
          have hrbn : w.heap.size < wn.heap.size := by omega
          have hall := (bzn.cell (p := ⟨w.heap.size, 0, none⟩) (show w.heap.size < wy.heap.size by omega)).trans e0
          have haT := ((HRZ.out.arr 0 (by omega)).below (((show Below wz.heap.size wz wn from bzx.trans (bzn.mono zy))).mono zz)).more (show wr.heap.size ≤ wn.heap.size by omega)
          rw [hA0] at haT
          obtain ⟨p, hp⟩ : ∃ p, p = (L 0).take k := ⟨_, rfl⟩
          obtain ⟨q, hq⟩ : ∃ q, q = (L 0).drop (k + 1) := ⟨_, rfl⟩
          have hap : Arr Taken.enc 2 wn wn.heap.size (some ⟨bt, ot, none⟩) p := by rw [hp]; exact haT.take k
          have haq : Arr Taken.enc 2 wn wn.heap.size (if cT = k + 1 then some ⟨bt, ot, none⟩ else (some (⟨bt, ot, none⟩ : Addr)).map (·.add ((k + 1) * 2))) q := by rw [hq]; exact haT.drop (by omega) hlT
          have HPL := hid (show p.length = k by rw [hp, List.length_take]; omega)
          have HQL := hid (show q.length = (L 0).length - (k + 1) by rw [hq, List.length_drop])
          have hpl2 := HPL.out
          have hql2 := HQL.out
          have HP := hid (fun (W : World) (hb : Below wn.heap.size wn W) => hap.below hb)
          have HPQ := hid (And.intro hp hq)
          have hN30 : (L 0).length ≤ 30 := by have := HZ.out; omega
          have hpq1 : p.length ≤ 30 := by omega
          have hpq2 : q.length ≤ 30 := by omega
          clear hpl2 hql2 hap hp hq haT hwn hnb
          go_cut [] (fun wx => ∃ A5 c5, wx.heap[wy.heap.size]? = some (.cells #[.slice A5 (p ++ q).length c5, .slice (A 1) (L 1).length (c 1), .slice (A 2) (L 2).length (c 2), .slice (A 3) (L 3).length (c 3), .slice (A 4) (L 4).length (c 4)] 26 (0, 0)) ∧ Arr Taken.enc 2 wx wx.heap.size A5 (p ++ q) ∧ (p ++ q).length ≤ c5 ∧ c5 ≤ 9223372036854775807 ∧ Below wy.heap.size wy wx)
          case first =>
            have hall := hid hall
            have h0' := hall.out
            by_cases hcc : cT = k + 1
            · rw [if_pos hcc] at haq
              have HQ := hid (fun (W : World) (hb : Below wn.heap.size wn W) => haq.below hb)
              have HZZ := hid (show (L 0).length - (k + 1) = 0 by omega)
              clear haq
              subst hcc
              have i1 : (0 : Int) ≤ (k : Int) := by omega
              have i2 : (k : Int) ≤ (k : Int) + 1 := by omega
              have i4 : (k : Int) + 1 ≤ ((L 0).length : Int) := by omega
              have i5 : (0 : Int) ≤ (k : Int) + 1 := by omega
              have i6 : ((L 0).length : Int) ≤ (k : Int) + 1 := by omega
              have i7 : IntKind.i64.wrap ((k : Int) + 1) = (k : Int) + 1 := Go.IntWalk.i64_in _ (by omega)
              have i9 : (k : Int) ≤ ((L 0).length : Int) := by omega
              go_region_held3 (fun W => W.cell? ⟨w.heap.size, 0, none⟩ = some (.slice (some ⟨bt, ot, none⟩) (L 0).length (k + 1))) (first | (with_reducible refine keepS1 ((hb3.cell (p := ⟨w.heap.size, 0, none⟩) hrbn).trans hall.out) (by omega)) | exact ((show Below wn.heap.size wn _ from (by repeat (first | with_reducible exact Below.refl _ _ | with_reducible assumption | with_reducible refine Below.drew ?_ | with_reducible refine below_drewN ?_ _ | with_reducible refine Below.alloc ?_ (by first | omega | (simp; done) | (simp; omega)) _ | with_reducible refine Below.setCell ?_ (by first | omega | (simp; done) | (simp; omega)) _))).cell (p := ⟨w.heap.size, 0, none⟩) hrbn).trans hall.out | go_keep) (first | (refine step_taken (l := []) (m := p) (A := none) (c := 0) (lo := wn.heap.size) _ (by rfl) (.const (.slice none 0 0)) (.tmp 111) (by rfl) (by rfl) Own.none_ (k + 1) (by first | rfl | simp [Act.eval, HPL.out]) (HP.out _ (by repeat (first | with_reducible exact Below.refl _ _ | with_reducible assumption | with_reducible refine Below.drew ?_ | with_reducible refine below_drewN ?_ _ | with_reducible refine Below.alloc ?_ (by first | omega | (simp; done) | (simp; omega)) _ | with_reducible refine Below.setCell ?_ (by first | omega | (simp; done) | (simp; omega)) _))) (by rw [List.length_nil]; omega) (by first | (simp; done) | (simp; omega) | omega) ?_; intro AP cP wP hownP hgrP hlocP; rw [List.nil_append] at hownP; have hbP : Below wn.heap.size wn wP := belowN hgrP (by repeat (first | with_reducible exact Below.refl _ _ | with_reducible assumption | with_reducible refine Below.drew ?_ | with_reducible refine below_drewN ?_ _ | with_reducible refine Below.alloc ?_ (by first | omega | (simp; done) | (simp; omega)) _ | with_reducible refine Below.setCell ?_ (by first | omega | (simp; done) | (simp; omega)) _)) (by first | (simp; done) | (simp; omega) | omega); have hzP := hbP.size) | (refine step_taken (l := p) (m := q) (A := AP) (c := cP) (lo := wn.heap.size) _ (by rfl) (.tmp 112) (.tmp 117) (by rfl) (by first | rfl | simp [Act.eval, HPL.out]) (by repeat (first | (with_reducible exact hownP) | (with_reducible refine Own.drew ?_) | (with_reducible refine Own.alloc ?_ _))) 0 (by first | rfl | (simp [Act.eval, HQL.out]; exact HZZ.out.symm)) (HQ.out _ (by repeat (first | with_reducible exact Below.refl _ _ | with_reducible assumption | with_reducible refine Below.drew ?_ | with_reducible refine below_drewN ?_ _ | with_reducible refine Below.alloc ?_ (by first | omega | (simp; done) | (simp; omega)) _ | with_reducible refine Below.setCell ?_ (by first | omega | (simp; done) | (simp; omega)) _))) (by omega) (by first | exact hzP | (simp; done) | (simp; omega)) ?_; intro A3 c3 w3 hown3 hgr3 hloc3; have hb3 : Below wn.heap.size wn w3 := Below.grown (show Below wn.heap.size wn _ from (by repeat (first | with_reducible exact Below.refl _ _ | with_reducible assumption | with_reducible refine Below.drew ?_ | with_reducible refine below_drewN ?_ _ | with_reducible refine Below.alloc ?_ (by first | omega | (simp; done) | (simp; omega)) _ | with_reducible refine Below.setCell ?_ (by first | omega | (simp; done) | (simp; omega)) _))) hgr3 (by first | exact hzP | (simp; omega)) (fun j hj => own_row hownP (by first | exact .inl hj | exact .inr hj)); have hm3 := (hb3.block wy.heap.size (by omega)).trans HNB.out; have q4 := cell_of_row w3 _ 0 _ _ _ hm3; have g4 := frozen_of_row w3 _ 0 _ _ hm3) | fail)
              go_wp2_with fail
              go_meet
              refine ⟨A3, c3, ?_, ?_, hown3.len, hown3.max, ?_⟩
              · have := heap_setCell_same w3 wy.heap.size 0 _ _ (.slice A3 (p ++ q).length c3) hm3
                simpa [HPL.out, HQL.out] using this
              · exact (hown3.setCell (p := ⟨wy.heap.size, 0, none⟩) (by show wy.heap.size < wn.heap.size; omega) _).arr Taken.enc_len
              · exact (bzn.trans (hb3.mono (by omega))).setCell (Nat.le_refl _) _
            · rw [if_neg hcc] at haq
              have haq2 : Arr Taken.enc 2 wn wn.heap.size (some ⟨bt, ot + (k + 1) * 2, none⟩) q := by simpa [Addr.add] using haq
              have HQ := hid (fun (W : World) (hb : Below wn.heap.size wn W) => haq2.below hb)
              clear haq haq2
              have i1 : (0 : Int) ≤ (k : Int) := by omega
              have i2 : (k : Int) ≤ (cT : Int) := by omega
              have i3 : (k : Int) ≤ ((L 0).length : Int) := by omega
              have i4 : (k : Int) + 1 ≤ ((L 0).length : Int) := by omega
              have i5 : (0 : Int) ≤ (k : Int) + 1 := by omega
              have i6 : ((L 0).length : Int) ≤ (cT : Int) := by omega
              have i7 : IntKind.i64.wrap ((k : Int) + 1) = (k : Int) + 1 := Go.IntWalk.i64_in _ (by omega)
              have i8 : (k : Int) + 1 ≤ (cT : Int) := by omega
              go_region_held3 (fun W => W.cell? ⟨w.heap.size, 0, none⟩ = some (.slice (some ⟨bt, ot, none⟩) (L 0).length cT)) (first | (with_reducible refine keepS1 ((hb3.cell (p := ⟨w.heap.size, 0, none⟩) hrbn).trans hall.out) (by omega)) | exact ((show Below wn.heap.size wn _ from (by repeat (first | with_reducible exact Below.refl _ _ | with_reducible assumption | with_reducible refine Below.drew ?_ | with_reducible refine below_drewN ?_ _ | with_reducible refine Below.alloc ?_ (by first | omega | (simp; done) | (simp; omega)) _ | with_reducible refine Below.setCell ?_ (by first | omega | (simp; done) | (simp; omega)) _))).cell (p := ⟨w.heap.size, 0, none⟩) hrbn).trans hall.out | go_keep) (first | (refine step_taken (l := []) (m := p) (A := none) (c := 0) (lo := wn.heap.size) _ (by rfl) (.const (.slice none 0 0)) (.tmp 111) (by rfl) (by rfl) Own.none_ cT (by first | rfl | simp [Act.eval, HPL.out]) (HP.out _ (by repeat (first | with_reducible exact Below.refl _ _ | with_reducible assumption | with_reducible refine Below.drew ?_ | with_reducible refine below_drewN ?_ _ | with_reducible refine Below.alloc ?_ (by first | omega | (simp; done) | (simp; omega)) _ | with_reducible refine Below.setCell ?_ (by first | omega | (simp; done) | (simp; omega)) _))) (by rw [List.length_nil]; omega) (by first | (simp; done) | (simp; omega) | omega) ?_; intro AP cP wP hownP hgrP hlocP; rw [List.nil_append] at hownP; have hbP : Below wn.heap.size wn wP := belowN hgrP (by repeat (first | with_reducible exact Below.refl _ _ | with_reducible assumption | with_reducible refine Below.drew ?_ | with_reducible refine below_drewN ?_ _ | with_reducible refine Below.alloc ?_ (by first | omega | (simp; done) | (simp; omega)) _ | with_reducible refine Below.setCell ?_ (by first | omega | (simp; done) | (simp; omega)) _)) (by first | (simp; done) | (simp; omega) | omega); have hzP := hbP.size) | (refine step_taken (l := p) (m := q) (A := AP) (c := cP) (lo := wn.heap.size) _ (by rfl) (.tmp 112) (.tmp 117) (by rfl) (by first | rfl | simp [Act.eval, HPL.out]) (by repeat (first | (with_reducible exact hownP) | (with_reducible refine Own.drew ?_) | (with_reducible refine Own.alloc ?_ _))) (cT - (k + 1)) (by first | rfl | (simp [Act.eval, HQL.out]; done)) (HQ.out _ (by repeat (first | with_reducible exact Below.refl _ _ | with_reducible assumption | with_reducible refine Below.drew ?_ | with_reducible refine below_drewN ?_ _ | with_reducible refine Below.alloc ?_ (by first | omega | (simp; done) | (simp; omega)) _ | with_reducible refine Below.setCell ?_ (by first | omega | (simp; done) | (simp; omega)) _))) (by omega) (by first | exact hzP | (simp; done) | (simp; omega)) ?_; intro A3 c3 w3 hown3 hgr3 hloc3; have hb3 : Below wn.heap.size wn w3 := Below.grown (show Below wn.heap.size wn _ from (by repeat (first | with_reducible exact Below.refl _ _ | with_reducible assumption | with_reducible refine Below.drew ?_ | with_reducible refine below_drewN ?_ _ | with_reducible refine Below.alloc ?_ (by first | omega | (simp; done) | (simp; omega)) _ | with_reducible refine Below.setCell ?_ (by first | omega | (simp; done) | (simp; omega)) _))) hgr3 (by first | exact hzP | (simp; omega)) (fun j hj => own_row hownP (by first | exact .inl hj | exact .inr hj)); have hm3 := (hb3.block wy.heap.size (by omega)).trans HNB.out; have q4 := cell_of_row w3 _ 0 _ _ _ hm3; have g4 := frozen_of_row w3 _ 0 _ _ hm3) | fail)
              go_wp2_with fail
              go_meet
              refine ⟨A3, c3, ?_, ?_, hown3.len, hown3.max, ?_⟩
              · have := heap_setCell_same w3 wy.heap.size 0 _ _ (.slice A3 (p ++ q).length c3) hm3
                simpa [HPL.out, HQL.out] using this
              · exact (hown3.setCell (p := ⟨wy.heap.size, 0, none⟩) (by show wy.heap.size < wn.heap.size; omega) _).arr Taken.enc_len
              · exact (bzn.trans (hb3.mono (by omega))).setCell (Nat.le_refl _) _
          case rest =>
            obtain ⟨A5, c5, hnb, hArr5, hlen5, hmax5, byx⟩ := hcut
            have zc := byx.size
            have hmy : wz.heap.size < wy.heap.size := cell_lt (p := ⟨wz.heap.size, 0, none⟩) ((cell_of_row wy _ 0 _ _ _ hmb).trans (by rfl))
            have hmc := (byx.block wz.heap.size hmy).trans hmb
            have m0 := cell_of_row wc _ 0 _ _ _ hmc
            have m1 := cell_of_row wc _ 1 _ _ _ hmc
            have m2 := cell_of_row wc _ 2 _ _ _ hmc
            have m3 := cell_of_row wc _ 3 _ _ _ hmc
            have m4 := cell_of_row wc _ 4 _ _ _ hmc
            simp at m0 m1 m2 m3 m4
            have bzc : Below wz.heap.size wz wc := bzx.trans (byx.mono zy)
            have HRC := hid (HRZ.out.below (bzc.mono zz))
            have bwc : Below w.heap.size w wc := bwz.trans (bzc.mono bwz.size)
            have hxm : x ∈ L 0 := by rw [HXK.out]; exact List.getElem_mem hkl
            have hroom : ∀ (W : World), Below wc.heap.size wc W → RoomsIn W W.heap.size (fun i => if i = 4 then A4 else if i = 0 then some ⟨bt, ot, none⟩ else A i) (fun i => if i = 4 then c4 else c i) (upd L 4 (L 4 ++ [x])) := fun W hb => by
              have hs := hb.size
              refine ⟨fun i hi => ?_, fun i hi => ?_, fun i hi => ?_, fun i hi => ?_, fun i hi y hy => ?_⟩
              · by_cases h4 : i = 4
                · subst h4
                  simp only [upd, if_pos]
                  exact (hArr4.below ((byx.trans (hb.mono zc)))).more (by omega)
                · simp only [upd, if_neg h4]
                  by_cases h0i : i = 0
                  · subst h0i
                    rw [if_pos rfl, ← hA0]
                    exact ((HRC.out.arr 0 (by omega)).below (hb.mono (by omega))).more (by omega)
                  · rw [if_neg h0i]
                    exact ((HRC.out.arr i hi).below (hb.mono (by omega))).more (by omega)
              · by_cases h4 : i = 4
                · subst h4; simpa [upd] using hlen4
                · simp only [upd, if_neg h4]; exact HRC.out.len i hi
              · by_cases h4 : i = 4
                · subst h4; simpa using hmax4
                · simp only [if_neg h4]; exact HRC.out.max i hi
              · by_cases h4 : i = 4
                · subst h4; simp [upd]; omega
                · simp only [upd, if_neg h4]; have := HLEN.out i; omega
              · by_cases h4 : i = 4
                · subst h4
                  simp only [upd, if_pos, List.mem_append, List.mem_singleton] at hy
                  rcases hy with hy | rfl
                  · exact HINR.out 4 y hy
                  · exact HINR.out 0 _ hxm
                · simp only [upd, if_neg h4] at hy; exact HINR.out i y hy
            have hroom2 : ∀ (W : World), Below wc.heap.size wc W → RoomsIn W W.heap.size (fun i => if i = 0 then A5 else A i) (fun i => if i = 0 then c5 else c i) (upd L 0 (p ++ q)) := fun W hb => by
              have hs := hb.size
              refine ⟨fun i hi => ?_, fun i hi => ?_, fun i hi => ?_, fun i hi => ?_, fun i hi y hy => ?_⟩
              · by_cases h0i : i = 0
                · subst h0i
                  simp only [upd, if_pos]
                  exact (hArr5.below hb).more hs
                · simp only [upd, if_neg h0i]
                  exact ((HRC.out.arr i hi).below (hb.mono (by omega))).more (by omega)
              · by_cases h0i : i = 0
                · subst h0i; simpa [upd] using hlen5
                · simp only [upd, if_neg h0i]; exact HRC.out.len i hi
              · by_cases h0i : i = 0
                · subst h0i; simpa using hmax5
                · simp only [if_neg h0i]; exact HRC.out.max i hi
              · by_cases h0i : i = 0
                · subst h0i; simp [upd]; omega
                · simp only [upd, if_neg h0i]; have := HLEN.out i; omega
              · by_cases h0i : i = 0
                · subst h0i
                  simp only [upd, if_pos, List.mem_append, HPQ.out.1, HPQ.out.2] at hy
                  rcases hy with hy | hy
                  · exact HINR.out 0 y (List.mem_of_mem_take hy)
                  · exact HINR.out 0 y (List.mem_of_mem_drop hy)
                · simp only [upd, if_neg h0i] at hy; exact HINR.out i y hy
            have b1 : bal (upd L 4 (L 4 ++ [x])) 4 x ≠ 0 := by rw [more_bal, HYES.out.1]; omega
            have b2 : bal (upd L 0 (p ++ q)) 4 x ≠ 0 := by rw [HPQ.out.1, HPQ.out.2, HXK.out, less_bal L hkl, HYES.out.1]; omega
            have call1 := parted_any _ _ _ wc (hroom wc (Below.refl _ _))
            have hv1 : roomsV (fun i => if i = 4 then A4 else if i = 0 then some ⟨bt, ot, none⟩ else A i) (fun i => if i = 4 then c4 else c i) (upd L 4 (L 4 ++ [x])) = .agg #[.slice (some ⟨bt, ot, none⟩) (L 0).length (c 0), .slice (A 1) (L 1).length (c 1), .slice (A 2) (L 2).length (c 2), .slice (A 3) (L 3).length (c 3), .slice A4 ((L 4).length + 1) c4] := by simp [roomsV, upd]
            rw [hv1] at call1
            have call2 := fun W hb => parted_any _ _ _ W (hroom2 W hb)
            have hv2 : roomsV (fun i => if i = 0 then A5 else A i) (fun i => if i = 0 then c5 else c i) (upd L 0 (p ++ q)) = .agg #[.slice A5 (p.length + q.length) c5, .slice (A 1) (L 1).length (c 1), .slice (A 2) (L 2).length (c 2), .slice (A 3) (L 3).length (c 3), .slice (A 4) (L 4).length (c 4)] := by simp [roomsV, upd]
            rw [hv2] at call2
            have C1 := hid call1
            have C2 := hid call2
            have B1 := hid b1
            have B2 := hid b2
            have HNB := hid hnb
            have hny : wy.heap.size < wc.heap.size := cell_lt (p := ⟨wy.heap.size, 0, none⟩) ((cell_of_row wc _ 0 _ _ _ hnb).trans (by rfl))
            clear call1 call2 hv1 hv2 hroom hroom2 b1 b2 hnb hmc hmb hArr4 hArr5 hxm e0 e1 e2 e3 e4
            go_wp2_with fail
            refine C1.out.mono ?_
            rintro e wd ⟨r1, rfl, hiff, hbd⟩
            obtain rfl := parted_no hiff B1.out
            have hnd := (hbd.block wy.heap.size hny).trans HNB.out
            have n0 := cell_of_row wd _ 0 _ _ _ hnd
            have n1 := cell_of_row wd _ 1 _ _ _ hnd
            have n2 := cell_of_row wd _ 2 _ _ _ hnd
            have n3 := cell_of_row wd _ 3 _ _ _ hnd
            have n4 := cell_of_row wd _ 4 _ _ _ hnd
            simp at n0 n1 n2 n3 n4
            have zd := hbd.size
            have HBD := hid hbd
            clear hiff hbd hnd m0 m1 m2 m3 m4
            go_wp2_with fail
            refine (C2.out wd HBD.out).mono ?_
            rintro e we ⟨r2, rfl, hiff, hbe⟩
            obtain rfl := parted_no hiff B2.out
            have bwe : Below w.heap.size w we := (bwc.trans (HBD.out.mono bwc.size)).trans (hbe.mono (Nat.le_trans bwc.size zd))
            clear hiff hbe n0 n1 n2 n3 n4
            go_wp2_with fail
            refine (awake26 _).mono ?_
            rintro e w4 ⟨rfl, hb4⟩
            go_wp2
            go_ret
            exact ⟨rfl, bwe.trans (hb4.mono bwe.size)⟩
end Go.Proofs.Ytamcehfcjcmpmaa
