/- slices.Insert of one thing into a slice of the call's own: what it holds then; what has changed in memory. At Pair. -/
import Derived.Test.YtamcehfcjcmpmaaGreatDoorMem
import Derived.Lib.Overlaps
import Derived.Lib.AppendZerosOnto
import Derived.Laws.NewBlocks
import Derived.Deep.RegionLaw
import Derived.Test.YtamcehfcjcmpmaaGreatDoorIdl6
import Derived.Lib.SliceRun
import Derived.Laws.Externs
/- copy, append of a make, clear: at rows of things of k cells; what a thing set between others makes of a row's cells. No program is named. -/
namespace Go.Proofs.YtamcehfcjcmpmaaGreatDoor
open Go.RowKit

/-- all is read before anything is written -/
theorem run_copy_k {P : Program} (w : World) (dT sT ty elem : TypeId) (i : TypeInfo) (b o dLen dCap : Nat) (a : Addr) (sLen sCap : Nat) (cs : List Value)
    (hu : P.underlying dT = some (.slice elem)) (hi : P.info? elem = some i) (hn : cs.length = Nat.min sLen dLen * i.size)
    (hsrc : ∀ j v, cs[j]? = some v → w.cell? (a.add j) = some v) (hc : ∀ j, j < cs.length → (w.cell? ⟨b, o + j, none⟩).isSome = true) (hf : ∀ j, j < cs.length → w.frozen? ⟨b, o + j, none⟩ = false) (h1 : ∀ v ∈ cs, v.oneCell' = true) :
    (Builtin.copy_ #[dT, sT] ty #[.slice (some ⟨b, o, none⟩) dLen dCap, .slice (some a) sLen sCap]).run P w = .ok (goInt (Nat.min sLen dLen)) (w.setCells b o cs) := by
  have hl := run_firstCells_some (P := P) w i.size (Nat.min sLen dLen) a sLen sCap cs hn hsrc
  have hst := run_storeCells_cells (P := P) b o cs 0 w (by simpa using hc) (by simpa using hf) h1
  simp [Builtin.copy_, run_underlying hu, Builtin.lenOf, sizeOf, typeInfo, hi, hl, hst]
theorem wp_copy_by {P : Program} (w : World) {o : Oper} {a : Act} {K : Act → World → Prop} {Q : Exit → Act → World → Prop} (d s : Operand) (t t' : TypeId)
    (ho : o.op = .call { callee := .builtin .copy, args := #[d, s], argTypes := #[t, t'] }) (v u : Value) (hd : a.eval d = v) (hs : a.eval s = u) {v' : Value} {w' : World}
    (hr : (Builtin.copy_ #[t, t'] o.type #[v, u]).run P w = .ok v' w') (h : K (a.put o.dst v') w') : o.wp P a w K Q := by
  unfold Oper.wp execOp
  simp only [ho, resolve, invoke, builtin, Sem.run_bind, Sem.run_pure, Result.andThen_ok, List.map_toArray, List.map_cons, List.map_nil, hd, hs, hr]
  exact h
theorem wpList_copy_by {P : Program} (w : World) {ops : Array Oper} {rest : List Oper} {o : Oper} {a : Act} {Q : Exit → Act → World → Prop} (hgd : o.guard = none) (d s : Operand) (t t' : TypeId)
    (ho : o.op = .call { callee := .builtin .copy, args := #[d, s], argTypes := #[t, t'] }) (v u : Value) (hd : a.eval d = v) (hs : a.eval s = u) {v' : Value} {w' : World}
    (hr : (Builtin.copy_ #[t, t'] o.type #[v, u]).run P w = .ok v' w') (h : wpList P ops Q rest (a.put o.dst v') w') : wpList P ops Q (o :: rest) a w :=
  wpList_plain hgd fun _ hK => wp_copy_by w d s t t' ho v u hd hs hr (hK _ _ h)
theorem step_copy_by {P : Program} {ops : Array Oper} {o : Oper} {a : Act} {w : World} {K : Act → World → Prop} {Q : Exit → Act → World → Prop} {E : Prop}
    (hg : o.guard = none) (d x : Operand) (dT sT : TypeId) (hop : o.op = Op.call { callee := Callee.builtin Builtin.copy, args := #[d, x], argTypes := #[dT, sT] })
    (v u : Value) (hd : a.eval d = v) (hx : a.eval x = u) {v' : Value} {w' : World} (hr : (Builtin.copy_ #[dT, sT] o.type #[v, u]).run P w = .ok v' w') (hK : K (a.put o.dst v') w') :
    if Region.wanted o (yielded ops a.tmps) = true then Oper.wp P o a w K Q else E := by
  have hw : Region.wanted o (yielded ops a.tmps) = true := by simp [Region.wanted, hg]
  rw [if_pos hw]
  exact wp_copy_by w d x dT sT hop v u hd hx hr hK

theorem flat_take {α : Type} {enc : α → List Value} {k : Nat} (hk : ∀ x, (enc x).length = k) : ∀ (l : List α) (i : Nat), (l.take i).flatMap enc = (l.flatMap enc).take (i * k)
  | [], i => by simp
  | x :: l, 0 => by simp
  | x :: l, i + 1 => by
    simp only [List.take_succ_cons, List.flatMap_cons, flat_take hk l i]
    have h1 : (enc x).take ((i + 1) * k) = enc x := List.take_of_length_le (by rw [hk, Nat.succ_mul]; omega)
    have h2 : (i + 1) * k - k = i * k := by rw [Nat.succ_mul]; omega
    rw [List.take_append, hk, h1, h2]
theorem flat_drop {α : Type} {enc : α → List Value} {k : Nat} (hk : ∀ x, (enc x).length = k) : ∀ (l : List α) (i : Nat), (l.drop i).flatMap enc = (l.flatMap enc).drop (i * k)
  | [], i => by simp
  | x :: l, 0 => by simp
  | x :: l, i + 1 => by
    simp only [List.drop_succ_cons, List.flatMap_cons, flat_drop hk l i]
    have h1 : (enc x).drop ((i + 1) * k) = [] := List.drop_of_length_le (by rw [hk, Nat.succ_mul]; omega)
    have h2 : (i + 1) * k - k = i * k := by rw [Nat.succ_mul]; omega
    rw [List.drop_append, hk, h1, h2, List.nil_append]
/-- a thing set between others -/
def ins {α : Type} (l : List α) (i : Nat) (x : α) : List α := l.take i ++ x :: l.drop i
theorem ins_length {α : Type} (l : List α) (i : Nat) (x : α) (h : i ≤ l.length) : (ins l i x).length = l.length + 1 := by simp [ins]; omega
theorem flat_ins {α : Type} {enc : α → List Value} {k : Nat} (hk : ∀ x, (enc x).length = k) (l : List α) (i : Nat) (x : α) :
    (ins l i x).flatMap enc = (l.flatMap enc).take (i * k) ++ (enc x ++ (l.flatMap enc).drop (i * k)) := by
  rw [ins, List.flatMap_append, List.flatMap_cons, flat_take hk, flat_drop hk]
/-- the cells of a row behind the shift, and behind the store: what it holds is the list with x set in -/
theorem ins_cells {α : Type} {enc : α → List Value} {k : Nat} (hk : ∀ x, (enc x).length = k) {l : List α} {i : Nat} {x : α} (hi : i ≤ l.length) {cur : Array Value} {off : Nat}
    (h1 : ∀ j u, ((l.flatMap enc).take (i * k))[j]? = some u → cur[off + j]? = some u) (h2 : ∀ j (u : Value), (enc x)[j]? = some u → cur[off + (i * k + j)]? = some u)
    (h3 : ∀ j u, ((l.flatMap enc).drop (i * k))[j]? = some u → cur[off + ((i + 1) * k + j)]? = some u) : ∀ j (u : Value), ((ins l i x).flatMap enc)[j]? = some u → cur[off + j]? = some u := by
  intro j u hu
  rw [flat_ins hk] at hu
  have hlt : ((l.flatMap enc).take (i * k)).length = i * k := by
    rw [List.length_take, flat_length hk]
    have : i * k ≤ l.length * k := Nat.mul_le_mul_right _ hi
    omega
  by_cases c1 : j < i * k
  · rw [List.getElem?_append_left (by omega)] at hu
    exact h1 j u hu
  · rw [List.getElem?_append_right (by omega), hlt] at hu
    by_cases c2 : j - i * k < k
    · rw [List.getElem?_append_left (by rw [hk]; exact c2)] at hu
      have := h2 _ u hu
      rwa [show i * k + (j - i * k) = j by omega] at this
    · rw [List.getElem?_append_right (by rw [hk]; omega), hk] at hu
      have := h3 _ u hu
      rwa [show (i + 1) * k + (j - i * k - k) = j by rw [Nat.succ_mul]; omega] at this
theorem drew_setCells' (b : Nat) : ∀ (vs : List Value) (o : Nat) (w : World), (w.setCells b o vs).drew = w.drew.setCells b o vs
  | [], _, _ => rfl
  | v :: r, o, w => by rw [World.setCells, World.setCells, drew_setCells' b r]; rfl
end Go.Proofs.YtamcehfcjcmpmaaGreatDoor
namespace Go.Proofs.YtamcehfcjcmpmaaGreatDoor
open Go.RowKit

theorem grown_twoPair {a b c : World} {row : Option Nat} (h : a.grownBy b row) (k : b.grownBy c row) : a.grownBy c row :=
  ⟨k.os.trans h.os, k.tape.trans h.tape, k.output.trans h.output, Nat.le_trans h.size k.size, fun i hi hn => (k.block i (Nat.lt_of_lt_of_le hi h.size) hn).trans (h.block i hi hn)⟩
def GivesInsPair (lo : Nat) (A : Option Addr) (c : Nat) (l : List Pair) (i : Nat) (x : Pair) (w : World) (e : Ending) (w' : World) : Prop :=
  ∃ A' c', e = .returned (.slice A' (l.length + 1) c') ∧ Own Pair.enc 54 2 w' lo A' c' (ins l i x) ∧ w.grownBy w' (rowOf A c) ∧ (A' = A ∧ c' = c ∨ ∃ g, A' = some ⟨g, 0, none⟩ ∧ w.heap.size ≤ g)

theorem arr_onePair {w : World} {vb : Nat} {x : Pair} (hv : w.heap[vb]? = some (.cells x.enc.toArray 54 (0, 0))) : Arr Pair.enc 2 w w.heap.size (some ⟨vb, 0, none⟩) [x] := by
  refine Arr.of_cells Pair.enc_len ?_ fun j u hu => ?_
  · rcases Nat.lt_or_ge vb w.heap.size with h | h
    · exact h
    · rw [Array.getElem?_eq_none h] at hv; cases hv
  · rw [Nat.zero_add, cell_of_row w vb j _ _ _ hv]
    simpa using hu

set_option maxHeartbeats 2000000 in
theorem ins_endPair (l : List Pair) (A : Option Addr) (c lo vb : Nat) (x : Pair) (w : World) (own : Own Pair.enc 54 2 w lo A c l) (hv : w.heap[vb]? = some (.cells x.enc.toArray 54 (0, 0))) (hlo : lo ≤ w.heap.size) (hl : l.length ≤ 100000) :
    Calls Tryz.prog 81 #[.slice A l.length c, .int .i64 l.length, .slice (some ⟨vb, 0, none⟩) 1 1] w (GivesInsPair lo A c l l.length x w) := by
  have harr := hid (arr_onePair hv)
  have hc := own.len
  have hm := own.max
  have H := hid own
  clear own hv
  by_cases hcl : c = l.length
  · subst hcl
    go_enter Tryz.func81, Tryz.ntmps81
    go_wp2_with (at_builtin; refine app_pair (l := l) (m := [x]) _ rfl (.tmp 23) (.tmp 24) rfl rfl H.out 1 rfl harr.out (by simp; omega) hlo ?_; intro A' c' w' hown hgr hloc)
    go_ret
    exact ⟨A', c', rfl, by simpa [ins] using hown, hgr, hloc⟩
  · go_enter Tryz.func81, Tryz.ntmps81
    go_wp2_with (at_builtin; refine app_pair (l := l) (m := [x]) _ rfl (.tmp 23) (.tmp 24) rfl rfl H.out 1 rfl harr.out (by simp; omega) hlo ?_; intro A' c' w' hown hgr hloc)
    go_ret
    exact ⟨A', c', rfl, by simpa [ins] using hown, hgr, hloc⟩

set_option maxHeartbeats 4000000 in
set_option maxRecDepth 100000 in
theorem ins_shiftPair (l : List Pair) (b off c lo vb i : Nat) (x : Pair) (w : World) (own : Own Pair.enc 54 2 w lo (some ⟨b, off, none⟩) c l) (hv : w.heap[vb]? = some (.cells x.enc.toArray 54 (0, 0))) (hl : l.length ≤ 100000)
    (hi : i < l.length) (hroom : l.length + 1 ≤ c) (hne : vb ≠ b) :
    Calls Tryz.prog 81 #[.slice (some ⟨b, off, none⟩) l.length c, .int .i64 i, .slice (some ⟨vb, 0, none⟩) 1 1] w (GivesInsPair lo (some ⟨b, off, none⟩) c l i x w) := by
  obtain ⟨i0, hi0, hz0, hz1, hz2⟩ := info_parts info_pair
  have hmax := own.max
  obtain ⟨b', off', cur, hA, hlob, hh, hs, hcell⟩ : ∃ b' off' cur, (some (⟨b, off, none⟩ : Addr)) = some ⟨b', off', none⟩ ∧ lo ≤ b' ∧ w.heap[b']? = some (.cells cur 54 (0, 0)) ∧ off' + c * 2 ≤ cur.size ∧ ∀ j (u : Value), (l.flatMap Pair.enc)[j]? = some u → cur[off' + j]? = some u := by
    rcases own.2.2 with h0 | h
    · omega
    · exact h
  cases hA
  have hcm := own.2.1
  have hfl : (l.flatMap Pair.enc).length = l.length * 2 := flat_length Pair.enc_len l
  have hone : ∀ u ∈ l.flatMap Pair.enc, u.oneCell' = true := fun u hu => by
    obtain ⟨y, _, hy⟩ := List.mem_flatMap.1 hu
    exact Pair.enc_one y u hy
  -- the two copies
  obtain ⟨cur1, g1, g2, g3, g4, g5⟩ := heap_setCells ((l.flatMap Pair.enc).drop (i * 2)) (off + (i + 1) * 2) w.drew cur hh (by rw [List.length_drop, hfl]; omega)
  obtain ⟨W1, hW1⟩ : ∃ W1, W1 = w.drew.setCells b (off + (i + 1) * 2) ((l.flatMap Pair.enc).drop (i * 2)) := ⟨_, rfl⟩
  rw [← hW1] at g1
  obtain ⟨cur2, q1, q2, q3, q4, q5⟩ := heap_setCells x.enc (off + i * 2) W1 cur1 g1 (by rw [Pair.enc_len, g2]; omega)
  have hgr : w.grownBy W1 (some b) := by
    have := setCells_grown b ((l.flatMap Pair.enc).drop (i * 2)) (off + (i + 1) * 2) w.drew
    rw [← hW1] at this
    exact ⟨this.os, this.tape, this.output, this.size, this.block⟩
  have hgr2 := setCells_grown b x.enc (off + i * 2) W1
  have hW1v : W1.heap[vb]? = some (.cells x.enc.toArray 54 (0, 0)) := by
    rw [hW1, setCells_other b _ _ _ vb hne]; exact hv
  have hcp1 : ∀ ty dc sc, (Builtin.copy_ #[22, 22] ty #[.slice (some ⟨b, off + (i + 1) * 2, none⟩) (l.length - i) dc, .slice (some ⟨b, off + i * 2, none⟩) (l.length + 1 - i) sc]).run Tryz.prog w.drew = .ok (goInt (Nat.min (l.length + 1 - i) (l.length - i))) W1 := fun ty dc sc => by
    rw [hW1]
    refine run_copy_k w.drew _ _ ty 54 i0 b _ _ dc ⟨b, off + i * 2, none⟩ _ sc _ Tryz.underlying22 hi0 ?_ ?_ ?_ ?_ (fun u hu => hone u (List.mem_of_mem_drop hu))
    · rw [List.length_drop, hfl, hz1]; simp only [Nat.min_def]; split <;> omega
    · intro j u hu
      rw [Addr.add_lit]
      show w.cell? _ = _
      rw [cell_of_row w b _ _ _ _ hh, Nat.add_assoc]
      exact hcell _ u (by rwa [List.getElem?_drop] at hu)
    · intro j hj
      rw [List.length_drop, hfl] at hj
      show (w.cell? _).isSome = true
      rw [cell_of_row w b _ _ _ _ hh, Array.getElem?_eq_getElem (by omega)]; rfl
    · intro j _
      exact frozen_of_row w b _ _ _ hh
  have hcp2 : ∀ ty dc, (Builtin.copy_ #[22, 22] ty #[.slice (some ⟨b, off + i * 2, none⟩) (l.length + 1 - i) dc, .slice (some ⟨vb, 0, none⟩) 1 1]).run Tryz.prog W1 = .ok (goInt (Nat.min 1 (l.length + 1 - i))) (W1.setCells b (off + i * 2) x.enc) := fun ty dc => by
    refine run_copy_k W1 _ _ ty 54 i0 b _ _ dc ⟨vb, 0, none⟩ _ 1 _ Tryz.underlying22 hi0 ?_ ?_ ?_ ?_ (Pair.enc_one x)
    · rw [Pair.enc_len, hz1]; simp only [Nat.min_def]; split <;> omega
    · intro j u hu
      rw [Addr.add_lit, Nat.zero_add, cell_of_row W1 vb _ _ _ _ hW1v]
      simpa using hu
    · intro j hj
      rw [Pair.enc_len] at hj
      rw [cell_of_row W1 b _ _ _ _ g1, Array.getElem?_eq_getElem (by omega)]; rfl
    · intro j _
      exact frozen_of_row W1 b _ _ _ g1
  have hov : ∀ lb cb, (callFunc 93 #[.slice (some ⟨vb, 0, none⟩) 1 1, .slice (some ⟨b, off + (i + 1) * 2, none⟩) lb cb]).run Tryz.prog w = .ok (.value (.bool false)) w := fun lb cb => by
    rw [run_callFunc_extern Tryz.func93 (by kernel_rfl) (by kernel_rfl) (by kernel_rfl) (e := Extern.SlicesOverlaps.overlaps #[22, 22] #[4]) (by kernel_rfl),
      Lib.run_overlaps_apart w 22 4 54 Tryz.underlying22 2 (fun _ => by kernel_rfl) ⟨vb, 0, none⟩ ⟨b, off + (i + 1) * 2, none⟩ 1 1 lb cb hne 54 54 2 cur.size
        (by simp [World.shape?, hv, Pair.enc_len]) (by simp [World.shape?, hh]) (by omega) (frozen_of_row w vb _ _ _ hv) (frozen_of_row w vb _ _ _ hv)]
    rfl
  have hfin : Own Pair.enc 54 2 (W1.setCells b (off + i * 2) x.enc) lo (some ⟨b, off, none⟩) c (ins l i x) := by
    refine ⟨by rw [ins_length l i x (by omega)]; exact hroom, hcm, .inr ⟨b, off, cur2, rfl, hlob, q1, by rw [q2, g2]; exact hs, ins_cells Pair.enc_len (by omega) (fun j u hu => ?_) (fun j u hu => ?_) (fun j u hu => ?_)⟩⟩
    · have hj : j < i * 2 := by
        have := (List.getElem?_eq_some_iff.1 hu).1
        rw [List.length_take] at this
        omega
      rw [q3 _ (by omega), g3 _ (by omega)]
      rw [List.getElem?_take_of_lt hj] at hu
      exact hcell j u hu
    · rw [← Nat.add_assoc]
      exact q5 j u hu
    · rw [q4 _ (by rw [Pair.enc_len]; omega)]
      have := g5 j u hu
      rwa [Nat.add_assoc] at this
  have HOV := hid hov
  have HCP1 := hid hcp1
  have HCP2 := hid hcp2
  have HF := hid hfin
  have HG := hid (show w.grownBy _ (rowOf (some ⟨b, off, none⟩) c) from (by rw [rowOf, if_neg (by omega)]; exact grown_twoPair hgr hgr2))
  clear hov hcp1 hcp2 hfin hgr hgr2 hW1v hW1 hone hcell hh g1 g3 g4 g5 q1 q3 q4 q5 hi0 hz0 hz1 hz2 hv own hfl g2 q2 hs hcm
  have hz1 : ¬ ((i : Int) = (l.length : Int)) := by omega
  have hw1 : IntKind.i64.wrap ((i : Int) + 1) = (i : Int) + 1 := by rw [IntKind.wrap_i64]; omega
  have hb1 : (0 : Int) ≤ (i : Int) + 1 := by omega
  have hin : i ≤ l.length := by omega
  have htn : ((i : Int) + 1).toNat = i + 1 := by omega
  have hb2 : ¬ (c = i + 1) := by omega
  have hb3 : (i : Int) + 1 ≤ (l.length : Int) + 1 := by omega
  have hb4 : ¬ (c = i) := by omega
  have hb5 : (i : Int) ≤ (l.length : Int) + 1 := by omega
  go_enter Tryz.func81, Tryz.ntmps81
  go_wp2_with (simp only [HOV.out])
  go_region_law (refine step_copy_by rfl (.tmp 73) (.tmp 76) 22 22 rfl (.slice (some ⟨b, off + (i + 1) * 2, none⟩) (l.length - i) (c - (i + 1))) (.slice (some ⟨b, off + i * 2, none⟩) (l.length + 1 - i) (c - i)) (by simp [Act.eval, Act.put]) (by simp [Act.eval, Act.put]) (HCP1.out _ _ _) ?_)
  all_goals go_wp2_with (refine wpList_copy_by _ rfl (.tmp 80) (.tmp 81) 22 22 rfl (.slice (some ⟨b, off + i * 2, none⟩) (l.length + 1 - i) (c - i)) (.slice (some ⟨vb, 0, none⟩) 1 1) (by simp [Act.eval]) (by simp [Act.eval]) (HCP2.out _ _) ?_)
  all_goals go_ret
  all_goals exact ⟨_, c, rfl, HF.out, HG.out, .inl ⟨rfl, rfl⟩⟩

set_option maxHeartbeats 4000000 in
set_option maxRecDepth 100000 in
theorem ins_growPair (l : List Pair) (b off c lo vb i : Nat) (x : Pair) (w : World) (own : Own Pair.enc 54 2 w lo (some ⟨b, off, none⟩) c l) (hv : w.heap[vb]? = some (.cells x.enc.toArray 54 (0, 0))) (hlo : lo ≤ w.heap.size) (hl : l.length ≤ 100000)
    (hi : i < l.length) (hroom : c < l.length + 1) :
    Calls Tryz.prog 81 #[.slice (some ⟨b, off, none⟩) l.length c, .int .i64 i, .slice (some ⟨vb, 0, none⟩) 1 1] w (GivesInsPair lo (some ⟨b, off, none⟩) c l i x w) := by
  obtain ⟨i0, hi0, hz0, hz1, hz2⟩ := info_parts info_pair
  have hmax := own.max
  have hlen := own.len
  obtain ⟨b', off', cur, hA, hlob, hh, hs, hcell⟩ : ∃ b' off' cur, (some (⟨b, off, none⟩ : Addr)) = some ⟨b', off', none⟩ ∧ lo ≤ b' ∧ w.heap[b']? = some (.cells cur 54 (0, 0)) ∧ off' + c * 2 ≤ cur.size ∧ ∀ j (u : Value), (l.flatMap Pair.enc)[j]? = some u → cur[off' + j]? = some u := by
    rcases own.2.2 with h0 | h
    · omega
    · exact h
  cases hA
  have hfl : (l.flatMap Pair.enc).length = l.length * 2 := flat_length Pair.enc_len l
  have hone : ∀ u ∈ l.flatMap Pair.enc, u.oneCell' = true := fun u hu => by
    obtain ⟨y, _, hy⟩ := List.mem_flatMap.1 hu
    exact Pair.enc_one y u hy
  have hbw : b < w.heap.size := by
    rcases Nat.lt_or_ge b w.heap.size with h | h
    · exact h
    · rw [Array.getElem?_eq_none h] at hh; cases hh
  have hvw : vb < w.heap.size := by
    rcases Nat.lt_or_ge vb w.heap.size with h | h
    · exact h
    · rw [Array.getElem?_eq_none h] at hv; cases hv
  have hik : i + (l.length + 1 - i) = l.length + 1 := by omega
  have hkk : (l.length : Int) + 1 - (i : Int) = ((l.length + 1 - i : Nat) : Int) := by omega
  have hold : (Builtin.firstCells i0.size i (.slice (some ⟨b, off, none⟩) i c)).run Tryz.prog w.drew = .ok ((l.flatMap Pair.enc).take (i * 2)).toArray w.drew := by
    rw [hz1]
    exact run_firstCells_some w.drew 2 i ⟨b, off, none⟩ i c _ (by rw [List.length_take, hfl]; omega) (fun j v hj => by
      rw [Addr.add_lit]
      show w.cell? _ = _
      rw [cell_of_row w b _ _ _ _ hh]
      rw [List.getElem?_take] at hj
      split at hj
      · exact hcell j v hj
      · cases hj)
  obtain ⟨G, hG⟩ : ∃ G, G = grownCap w (l.length + 1) c 54 := ⟨_, rfl⟩
  obtain ⟨ROW, hROW⟩ : ∃ ROW : Array Value, ROW = ((l.flatMap Pair.enc).take (i * 2)).toArray ++ Builtin.zeroCells (Value.cells (.agg #[.string ByteArray.empty, .string ByteArray.empty])) (l.length + 1 - i) ++ Builtin.zeroCells (Value.cells (.agg #[.string ByteArray.empty, .string ByteArray.empty])) (G - (l.length + 1)) := ⟨_, rfl⟩
  obtain ⟨W0, hW0⟩ : ∃ W0, W0 = w.drew.alloc (.cells ROW 54) := ⟨_, rfl⟩
  have hrz : ∀ ty, (Builtin.append_ #[22, 3] ty #[.slice (some ⟨b, off, none⟩) i c, .int .i64 ((l.length : Int) + 1 - (i : Int))]).run Tryz.prog w = .ok (.slice (some ⟨w.heap.size, 0, none⟩) (l.length + 1) G) W0 := fun ty => by
    have h := Lib.run_append_grow_zeros w 22 3 ty 54 i0 _ .i64 .i64 Tryz.underlying22 Tryz.underlying3 hi0 hz0 (some ⟨b, off, none⟩) i c _ hold (l.length + 1 - i) (by omega) (by rw [hz1]; omega) (by omega) (by omega) (by rw [hz2]; omega) (by rw [hz2, hik]; exact growslice_fits hroom (by omega))
    rw [hik] at h
    rw [hkk, hW0, hROW, hG]
    exact h
  have hGn : l.length + 1 ≤ G := by rw [hG]; exact grownCap_ge w _ _ _
  have hGm : G ≤ maxLen := by
    rw [hG]
    exact grownCap_le_maxLen w (l.length + 1) c 54 (by unfold maxLen; omega)
  have hG63 : G ≤ 9223372036854775807 := by
    have := hGm
    unfold maxLen at this
    omega
  have hRsz : ROW.size = G * 2 := by
    rw [hROW]
    simp [Builtin.zeroCells, Value.cells, hfl]
    omega
  have hRtake : ∀ j u, ((l.flatMap Pair.enc).take (i * 2))[j]? = some u → ROW[0 + j]? = some u := fun j u hu => by
    have hj := (List.getElem?_eq_some_iff.1 hu).1
    rw [hROW, Nat.zero_add, Array.append_assoc, Array.getElem?_append_left (by simpa using hj)]
    simpa using hu
  have hsz0 : w.heap.size < W0.heap.size := by rw [hW0]; simp [World.alloc]
  have hW0N : W0.heap[w.heap.size]? = some (.cells ROW 54 (0, 0)) := by
    rw [hW0]
    show (w.drew.heap.push _)[w.drew.heap.size]? = _
    exact Array.getElem?_push_size
  have hW0o : ∀ j, j < w.heap.size → W0.heap[j]? = w.heap[j]? := fun j hj => by rw [hW0]; exact Below.heap_alloc w.drew _ j hj
  have hgr0 : w.grownBy W0 (some b) := ⟨by rw [hW0]; rfl, by rw [hW0]; rfl, by rw [hW0]; rfl, Nat.le_of_lt hsz0, fun j hj _ => hW0o j hj⟩
  obtain ⟨cur1, g1, g2, g3, g4, g5⟩ := heap_setCells x.enc (0 + i * 2) W0 ROW hW0N (by rw [Pair.enc_len, hRsz]; omega)
  obtain ⟨W1, hW1⟩ : ∃ W1, W1 = W0.setCells w.heap.size (0 + i * 2) x.enc := ⟨_, rfl⟩
  rw [← hW1] at g1
  have hgr1 : W0.grownBy W1 (some w.heap.size) := by rw [hW1]; exact setCells_grown w.heap.size x.enc (0 + i * 2) W0
  obtain ⟨cur2, q1, q2, q3, q4, q5⟩ := heap_setCells ((l.flatMap Pair.enc).drop (i * 2)) (0 + (i + 1) * 2) W1.drew cur1 g1 (by rw [List.length_drop, hfl, g2, hRsz]; omega)
  obtain ⟨W2, hW2⟩ : ∃ W2, W2 = W1.drew.setCells w.heap.size (0 + (i + 1) * 2) ((l.flatMap Pair.enc).drop (i * 2)) := ⟨_, rfl⟩
  rw [← hW2] at q1
  have hgr2 : W1.grownBy W2 (some w.heap.size) := by
    have := setCells_grown w.heap.size ((l.flatMap Pair.enc).drop (i * 2)) (0 + (i + 1) * 2) W1.drew
    rw [← hW2] at this
    exact ⟨this.os, this.tape, this.output, this.size, this.block⟩
  have hcp1 : ∀ ty dc, (Builtin.copy_ #[22, 22] ty #[.slice (some ⟨w.heap.size, 0 + i * 2, none⟩) (l.length + 1 - i) dc, .slice (some ⟨vb, 0, none⟩) 1 1]).run Tryz.prog W0 = .ok (goInt (Nat.min 1 (l.length + 1 - i))) W1 := fun ty dc => by
    rw [hW1]
    refine run_copy_k W0 _ _ ty 54 i0 w.heap.size _ _ dc ⟨vb, 0, none⟩ _ 1 _ Tryz.underlying22 hi0 ?_ ?_ ?_ ?_ (Pair.enc_one x)
    · rw [Pair.enc_len, hz1]; simp only [Nat.min_def]; split <;> omega
    · intro j u hu
      rw [Addr.add_lit, Nat.zero_add, cell_of_row W0 vb _ _ _ _ ((hW0o vb hvw).trans hv)]
      simpa using hu
    · intro j hj
      rw [Pair.enc_len] at hj
      rw [cell_of_row W0 _ _ _ _ _ hW0N, Array.getElem?_eq_getElem (by omega)]; rfl
    · intro j _
      exact frozen_of_row W0 _ _ _ _ hW0N
  have hcp2 : ∀ ty dc sc, (Builtin.copy_ #[22, 22] ty #[.slice (some ⟨w.heap.size, 0 + (i + 1) * 2, none⟩) (l.length - i) dc, .slice (some ⟨b, off + i * 2, none⟩) (l.length - i) sc]).run Tryz.prog W1.drew = .ok (goInt (Nat.min (l.length - i) (l.length - i))) W2 := fun ty dc sc => by
    rw [hW2]
    have hbN : b ≠ w.heap.size := by omega
    have hhb : W1.drew.heap[b]? = some (.cells cur 54 (0, 0)) := by
      show W1.heap[b]? = _
      rw [hW1, setCells_other _ _ _ _ b hbN, hW0o b hbw]; exact hh
    refine run_copy_k W1.drew _ _ ty 54 i0 w.heap.size _ _ dc ⟨b, off + i * 2, none⟩ _ sc _ Tryz.underlying22 hi0 ?_ ?_ ?_ ?_ (fun u hu => hone u (List.mem_of_mem_drop hu))
    · rw [List.length_drop, hfl, hz1]; simp only [Nat.min_def]; split <;> omega
    · intro j u hu
      rw [Addr.add_lit]
      rw [cell_of_row W1.drew b _ _ _ _ hhb, Nat.add_assoc]
      exact hcell _ u (by rwa [List.getElem?_drop] at hu)
    · intro j hj
      rw [List.length_drop, hfl] at hj
      rw [cell_of_row W1.drew _ _ _ _ _ g1, Array.getElem?_eq_getElem (by omega)]; rfl
    · intro j _
      exact frozen_of_row W1.drew _ _ _ _ g1
  have hfin : Own Pair.enc 54 2 W2 lo (some ⟨w.heap.size, 0, none⟩) G (ins l i x) := by
    refine ⟨by rw [ins_length l i x (by omega)]; exact hGn, hGm, .inr ⟨w.heap.size, 0, cur2, rfl, hlo, q1, by omega, ins_cells Pair.enc_len (by omega) (fun j u hu => ?_) (fun j u hu => ?_) (fun j u hu => ?_)⟩⟩
    · have hj : j < i * 2 := by
        have := (List.getElem?_eq_some_iff.1 hu).1
        rw [List.length_take] at this
        omega
      rw [q3 _ (by omega), g3 _ (by omega)]
      exact hRtake j u hu
    · have hj := (List.getElem?_eq_some_iff.1 hu).1
      rw [Pair.enc_len] at hj
      rw [q3 _ (by omega), ← Nat.add_assoc]
      exact g5 j u hu
    · have := q5 j u hu
      rwa [Nat.add_assoc] at this
  have hgrf : w.grownBy W2 (some b) := ⟨(hgr2.os.trans hgr1.os).trans hgr0.os, (hgr2.tape.trans hgr1.tape).trans hgr0.tape, (hgr2.output.trans hgr1.output).trans hgr0.output, Nat.le_trans hgr0.size (Nat.le_trans hgr1.size hgr2.size),
    fun j hj _ => ((hgr2.block j (by have := hgr1.size; omega) (by simp; omega)).trans (hgr1.block j (by omega) (by simp; omega))).trans (hW0o j hj)⟩
  have HRZ := hid hrz
  have HCP1 := hid hcp1
  have HCP2 := hid hcp2
  have HF := hid hfin
  have HG := hid (show w.grownBy W2 (rowOf (some ⟨b, off, none⟩) c) from (by rw [rowOf, if_neg (by omega)]; exact hgrf))
  obtain ⟨N, hN⟩ : ∃ N, N = w.heap.size := ⟨_, rfl⟩
  rw [← hN] at HRZ HCP1 HCP2 HF
  have HN := hid hN
  clear hfin hgrf hcp1 hcp2 hrz hgr2 hW2 q1 q2 q3 q4 q5 hgr1 hW1 g1 g2 g3 g4 g5 hgr0 hW0o hW0N hsz0 hRtake hRsz hGm hW0 hROW hG hold hik hvw hone hfl hcell hs hh hlob hi0 hz0 hz1 hz2 own hv hN hkk
  simp only [Nat.zero_add] at HCP1 HCP2
  have hz1 : ¬ ((i : Int) = (l.length : Int)) := by omega
  have hz3 : (c : Int) < (l.length : Int) + 1 := by omega
  have hw1 : IntKind.i64.wrap ((i : Int) + 1) = (i : Int) + 1 := by rw [IntKind.wrap_i64]; omega
  have hb1 : (0 : Int) ≤ (i : Int) + 1 := by omega
  have hin : i ≤ l.length := by omega
  have htn : ((i : Int) + 1).toNat = i + 1 := by omega
  have hGi : ¬ (G = i) := by omega
  have hGim : ¬ (G = i + 1) := by omega
  have hci : ¬ (c = i) := by omega
  have hb3 : (i : Int) ≤ (l.length : Int) := by omega
  go_enter Tryz.func81, Tryz.ntmps81
  go_wp2_with (first
    | (at_builtin; refine Lib.wpList_append_run _ rfl _ _ _ _ rfl _ _ rfl rfl _ _ (HRZ.out _) ?_)
    | (refine wpList_copy_by _ rfl (.tmp 43) (.tmp 44) 22 22 rfl (.slice (some ⟨N, i * 2, none⟩) (l.length + 1 - i) (G - i)) (.slice (some ⟨vb, 0, none⟩) 1 1) (by simp [Act.eval]) (by simp [Act.eval]) (HCP1.out _ _) ?_))
  go_region_law (refine step_copy_by rfl (.tmp 50) (.tmp 53) 22 22 rfl (.slice (some ⟨N, (i + 1) * 2, none⟩) (l.length - i) (G - (i + 1))) (.slice (some ⟨b, off + i * 2, none⟩) (l.length - i) (c - i)) (by simp [Act.eval, Act.put]) (by simp [Act.eval, Act.put]) (HCP2.out _ _ _) ?_)
  all_goals go_wp2
  all_goals go_ret
  all_goals exact ⟨_, G, rfl, HF.out, HG.out, .inr ⟨N, rfl, Nat.le_of_eq HN.out.symm⟩⟩

/-- in one -/
theorem ins_anyPair (l : List Pair) (A : Option Addr) (c lo vb i : Nat) (x : Pair) (w : World) (own : Own Pair.enc 54 2 w lo A c l) (hv : w.heap[vb]? = some (.cells x.enc.toArray 54 (0, 0))) (hlo : lo ≤ w.heap.size) (hl : l.length ≤ 100000)
    (hi : i ≤ l.length) (hne : c = 0 ∨ ∀ b off, A = some ⟨b, off, none⟩ → vb ≠ b) :
    Calls Tryz.prog 81 #[.slice A l.length c, .int .i64 i, .slice (some ⟨vb, 0, none⟩) 1 1] w (GivesInsPair lo A c l i x w) := by
  rcases Nat.lt_or_ge i l.length with h | h
  · obtain ⟨b, off, rfl, h1, h2⟩ : ∃ b off, A = some ⟨b, off, none⟩ ∧ lo ≤ b ∧ b < w.heap.size := by
      rcases own.lt with h0 | h0
      · have := own.len; omega
      · exact h0
    rcases Nat.lt_or_ge c (l.length + 1) with h' | h'
    · exact ins_growPair l b off c lo vb i x w own hv hlo hl h h'
    · exact ins_shiftPair l b off c lo vb i x w own hv hl h h' (by rcases hne with hne | hne; exact absurd h' (by omega); exact hne b off rfl)
  · obtain rfl : i = l.length := by omega
    exact ins_endPair l A c lo vb x w own hv hlo hl
end Go.Proofs.YtamcehfcjcmpmaaGreatDoor
