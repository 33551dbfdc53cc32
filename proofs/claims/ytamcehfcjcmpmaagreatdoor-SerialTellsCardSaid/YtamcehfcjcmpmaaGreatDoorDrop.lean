/- ideal.drop, and the doing of a delete. -/
import Derived.Test.YtamcehfcjcmpmaaGreatDoorIdl6
import Derived.Test.YtamcehfcjcmpmaaGreatDoorInsPair
import Derived.Test.YtamcehfcjcmpmaaGreatDoorIdl10
/- slices.DeleteFunc by ideal.drop's closure: the pairs of other keys stay, in order; ideal.drop. -/
namespace Go.Proofs.YtamcehfcjcmpmaaGreatDoor
open Go.RowKit

theorem run_clear_k {P : Program} (w : World) (t e ty : TypeId) (z : Value) (ht : P.underlying t = some (.slice e)) (hv : ∀ w, (zeroValue e).run P w = .ok z w) (h1 : ∀ v ∈ z.cells.toList, v.oneCell' = true) (b o n c : Nat) (hn : 0 < n)
    (hc : ∀ j, j < n * z.cells.size → (w.cell? ⟨b, o + j, none⟩).isSome = true) (hf : ∀ j, j < n * z.cells.size → w.frozen? ⟨b, o + j, none⟩ = false) :
    (Builtin.clear_ #[t] ty #[.slice (some ⟨b, o, none⟩) n c]).run P w = .ok (.tuple #[]) (w.setCells b o (Builtin.zeroCells z.cells n).toList) := by
  have hlen : (Builtin.zeroCells z.cells n).toList.length = n * z.cells.size := by simp [Builtin.zeroCells]
  have hone : ∀ v ∈ (Builtin.zeroCells z.cells n).toList, v.oneCell' = true := by
    intro v hv'
    simp only [Builtin.zeroCells, Array.toList_map, List.mem_map] at hv'
    obtain ⟨i, hi, rfl⟩ := hv'
    simp at hi
    have hpos : 0 < z.cells.size := by
      rcases Nat.eq_zero_or_pos z.cells.size with h0 | h0
      · rw [h0] at hi; omega
      · exact h0
    have hlt := Nat.mod_lt i hpos
    rw [getElem!_pos z.cells (i % z.cells.size) hlt]
    exact h1 _ (by simp)
  have hst := run_storeCells_cells (P := P) b o (Builtin.zeroCells z.cells n).toList 0 w (by rw [hlen]; simpa using hc) (by rw [hlen]; simpa using hf) hone
  simp only [Nat.add_zero] at hst
  obtain ⟨m, rfl⟩ : ∃ m, n = m + 1 := ⟨n - 1, by omega⟩
  simp [Builtin.clear_, run_underlying ht, hv, hst]
theorem wpList_clear_by {P : Program} (w : World) {ops : Array Oper} {rest : List Oper} {o : Oper} {a : Act} {Q : Exit → Act → World → Prop} (hgd : o.guard = none) (s : Operand) (t : TypeId)
    (ho : o.op = .call { callee := .builtin .clear, args := #[s], argTypes := #[t] }) (v : Value) (hs : a.eval s = v) {v' : Value} {w' : World}
    (hr : (Builtin.clear_ #[t] o.type #[v]).run P w = .ok v' w') (h : wpList P ops Q rest (a.put o.dst v') w') : wpList P ops Q (o :: rest) a w :=
  wpList_plain hgd fun _ hK => by
    unfold Oper.wp execOp
    simp only [ho, resolve, invoke, builtin, Sem.run_bind, Sem.run_pure, Result.andThen_ok, List.map_toArray, List.map_cons, List.map_nil, hs, hr]
    exact hK _ _ h

/-- a pair set anew -/
theorem Own.setPair {w : World} {lo : Nat} {b off c : Nat} {l : List Pair} (h : Own Pair.enc 54 2 w lo (some ⟨b, off, none⟩) c l) {i : Nat} (hi : i < l.length) (x : Pair) :
    Own Pair.enc 54 2 ((w.setCell ⟨b, off + i * 2, none⟩ (.string x.key)).setCell ⟨b, off + i * 2 + 1, none⟩ (.string x.val)) lo (some ⟨b, off, none⟩) c (l.set i x) := by
  obtain ⟨h1, h2, h3⟩ := h
  rcases h3 with h3 | ⟨b', off', cur, hA, hlo, hh, hs, hc⟩
  · omega
  cases hA
  have hh1 := heap_setCell_same w b (off + i * 2) cur _ (.string x.key) hh
  refine ⟨by rw [List.length_set]; exact h1, h2, .inr ⟨b, off, (cur.setIfInBounds (off + i * 2) (.string x.key)).setIfInBounds (off + i * 2 + 1) (.string x.val), rfl, hlo, heap_setCell_same _ b _ _ _ _ hh1, by simpa using hs, ?_⟩⟩
  intro j u hu
  have hlt := (List.getElem?_eq_some_iff.1 hu).1
  rw [flat_length Pair.enc_len, List.length_set] at hlt
  obtain ⟨q, r, rfl, hq, hr⟩ : ∃ q r, j = q * 2 + r ∧ q < l.length ∧ r < 2 := ⟨j / 2, j % 2, by omega, by omega, by omega⟩
  rw [flat_get Pair.enc_len _ q (by rw [List.length_set]; exact hq) r hr, List.getElem_set] at hu
  have hold := fun u' => hc (q * 2 + r) u'
  rw [flat_get Pair.enc_len l q hq r hr] at hold
  by_cases hqi : i = q
  · subst hqi
    rw [if_pos rfl] at hu
    rcases (by omega : r = 0 ∨ r = 1) with rfl | rfl
    · simp only [Pair.enc, List.getElem?_cons_zero, Option.some.injEq] at hu
      subst hu
      rw [Array.getElem?_setIfInBounds_ne (by omega), Nat.add_zero, Array.getElem?_setIfInBounds_self_of_lt (by omega)]
    · simp only [Pair.enc, List.getElem?_cons_succ, List.getElem?_cons_zero, Option.some.injEq] at hu
      subst hu
      rw [Nat.add_assoc off, Array.getElem?_setIfInBounds_self_of_lt (by simp; omega)]
  · rw [if_neg hqi] at hu
    rw [Array.getElem?_setIfInBounds_ne (by omega), Array.getElem?_setIfInBounds_ne (by omega)]
    exact hold u hu
/-- the first i, where what lies behind is overwritten -/
theorem Own.cut {w : World} {lo : Nat} {b off c : Nat} {l : List Pair} (h : Own Pair.enc 54 2 w lo (some ⟨b, off, none⟩) c l) {i : Nat} (hi : i ≤ l.length) (hc0 : 0 < c) (vs : List Value) (hvs : i * 2 + vs.length ≤ c * 2) :
    Own Pair.enc 54 2 (w.setCells b (off + i * 2) vs) lo (some ⟨b, off, none⟩) c (l.take i) := by
  obtain ⟨h1, h2, h3⟩ := h
  rcases h3 with h3 | ⟨b', off', cur, hA, hlo, hh, hs, hc⟩
  · omega
  cases hA
  obtain ⟨cur', g1, g2, g3, g4, g5⟩ := heap_setCells vs (off + i * 2) w cur hh (by omega)
  refine ⟨by rw [List.length_take]; omega, h2, .inr ⟨b, off, cur', rfl, hlo, g1, by omega, fun j u hu => ?_⟩⟩
  have hlt := (List.getElem?_eq_some_iff.1 hu).1
  rw [flat_length Pair.enc_len, List.length_take] at hlt
  rw [flat_take Pair.enc_len, List.getElem?_take_of_lt (by omega)] at hu
  rw [g3 _ (by omega)]
  exact hc j u hu

/-- what stays -/
def dropK (key : ByteArray) (l : List Pair) : List Pair := l.filter fun p => !eqK key p
theorem dropK_none {key : ByteArray} {l : List Pair} (h : fi (eqK key) l = -1) : dropK key l = l := by
  have := fi_find_none h
  rw [List.find?_eq_none] at this
  rw [dropK, List.filter_eq_self]
  intro a ha
  simpa using this a ha
/-- WHAT HOLDS AT A ROUND's HEAD: k have been looked at, the row is L -/
structure Mid (key : ByteArray) (l L : List Pair) (i k : Nat) : Prop where
  len : L.length = l.length
  ik : i < k
  kl : k ≤ l.length
  head : L.take i = dropK key (l.take k)
  tail : L.drop k = l.drop k
theorem Mid.start {key : ByteArray} {l : List Pair} {k : Nat} (hk : k < l.length) (h : fi (eqK key) l = (k : Int)) : Mid key l l k (k + 1) := by
  have e : l.findIdx (eqK key) = k := by
    unfold fi at h
    split at h <;> omega
  have h1 := (List.findIdx_eq hk).1 e
  refine ⟨rfl, Nat.lt_succ_self _, hk, ?_, rfl⟩
  rw [dropK, List.take_succ_eq_append_getElem hk, List.filter_append]
  have : (l.take k).filter (fun p => !eqK key p) = l.take k := by
    rw [List.filter_eq_self]
    intro a ha
    obtain ⟨i, hi, rfl⟩ := List.mem_iff_getElem.1 ha
    rw [List.getElem_take]
    simpa using h1.2 i (by simp at hi; omega)
  rw [this]
  simp [h1.1]
theorem Mid.get {key : ByteArray} {l L : List Pair} {i k : Nat} (h : Mid key l L i k) (hk : k < l.length) : L[k]'(by rw [h.len]; exact hk) = l[k] := by
  have := congrArg (fun x => x[0]?) h.tail
  simp only [List.getElem?_drop, Nat.add_zero] at this
  rw [List.getElem?_eq_getElem (by rw [h.len]; exact hk), List.getElem?_eq_getElem hk] at this
  exact Option.some.inj this
theorem Mid.skip {key : ByteArray} {l L : List Pair} {i k : Nat} (h : Mid key l L i k) (hk : k < l.length) (hq : eqK key l[k] = true) : Mid key l L i (k + 1) := by
  refine ⟨h.len, Nat.lt_succ_of_lt h.ik, hk, ?_, ?_⟩
  · rw [h.head, dropK, dropK, List.take_succ_eq_append_getElem hk, List.filter_append]
    simp [hq]
  · have := congrArg (fun x => x.drop 1) h.tail
    simpa using this
theorem Mid.keep {key : ByteArray} {l L : List Pair} {i k : Nat} (h : Mid key l L i k) (hk : k < l.length) (hq : eqK key l[k] = false) : Mid key l (L.set i l[k]) (i + 1) (k + 1) := by
  have hik := h.ik
  have hlen := h.len
  refine ⟨by rw [List.length_set]; exact h.len, by omega, hk, ?_, ?_⟩
  · rw [List.take_succ_eq_append_getElem (by rw [List.length_set]; omega), List.getElem_set_self, List.take_set_of_le (Nat.le_refl _), h.head, dropK, dropK, List.take_succ_eq_append_getElem hk, List.filter_append]
    simp [hq]
  · rw [List.drop_set_of_lt (by omega)]
    have := congrArg (fun x => x.drop 1) h.tail
    simpa using this
theorem grown_cell {a w : World} {row : Option Nat} (h : a.grownBy w row) {p : Addr} (hp : p.block < a.heap.size) (hne : row ≠ some p.block) : w.cell? p = a.cell? p := by
  unfold World.cell?
  rw [h.block p.block hp (fun e => hne e.symm)]
theorem grown_trans {a b c : World} {row : Option Nat} (h : a.grownBy b row) (k : b.grownBy c row) : a.grownBy c row :=
  ⟨k.os.trans h.os, k.tape.trans h.tape, k.output.trans h.output, Nat.le_trans h.size k.size, fun i hi hn => (k.block i (Nat.lt_of_lt_of_le hi h.size) hn).trans (h.block i hi hn)⟩
theorem grown_below {a b : World} {row : Option Nat} (h : Below a.heap.size a b) : a.grownBy b row := ⟨h.os, h.tape, h.output, h.size, fun i hi _ => h.block i hi⟩
theorem grown_setCell1 (w : World) (a : Addr) (u : Value) : w.grownBy (w.setCell a u) (some a.block) := ⟨rfl, rfl, rfl, by simp, fun i _ hn => Below.heap_setCell _ _ _ _ fun h => hn (h ▸ rfl)⟩
def GivesDel (lo : Nat) (A : Option Addr) (c : Nat) (key : ByteArray) (l : List Pair) (w : World) (e : Ending) (w' : World) : Prop :=
  e = .returned (.slice A (dropK key l).length c) ∧ Own Pair.enc 54 2 w' lo A c (dropK key l) ∧ w.grownBy w' (rowOf A c)
set_option maxHeartbeats 4000000 in
set_option maxRecDepth 100000 in
theorem del_any (l : List Pair) (A : Option Addr) (c lo bk : Nat) (key : ByteArray) (w : World) (own : Own Pair.enc 54 2 w lo A c l) (hbk : bk < w.heap.size) (hk : w.cell? ⟨bk, 0, none⟩ = some (.string key)) (hne : c = 0 ∨ ∀ b off, A = some ⟨b, off, none⟩ → bk ≠ b) :
    Calls Tryz.prog 82 #[.slice A l.length c, .func (.func 83) #[] #[.pointer (some ⟨bk, 0, none⟩)]] w (GivesDel lo A c key l w) := by
  have HO := hid own
  have hlen := own.len
  have hmax := own.max
  rcases fi_range (q := eqK key) (l := l) with hf | ⟨k, hkl, hf⟩
  · have HF := hid hf
    clear own hf
    go_enter Tryz.func82, Tryz.ntmps82
    go_wp2_with fail
    refine (drop1_idx l A c key bk w (HO.out.arr Pair.enc_len) hlen hmax hbk hk).mono ?_
    rintro e w' ⟨rfl, hb⟩
    rw [HF.out]
    go_wp2
    go_ret
    exact ⟨by rw [dropK_none HF.out]; rfl, by rw [dropK_none HF.out]; exact HO.out.below hb, grown_below hb⟩
  · obtain ⟨b, off, rfl, hlo, hbw⟩ : ∃ b off, A = some ⟨b, off, none⟩ ∧ lo ≤ b ∧ b < w.heap.size := by
      rcases own.lt with h0 | h0
      · omega
      · exact h0
    have hne' : bk ≠ b := by
      rcases hne with h0 | h0
      · omega
      · exact h0 b off rfl
    have HF := hid hf
    have HMS := hid (Mid.start hkl hf)
    have hkn : ((k : Int) == -1) = false := by rw [beq_eq_false_iff_ne]; omega
    clear own hf hne
    go_enter Tryz.func82, Tryz.ntmps82
    go_wp2_with fail
    refine (drop1_idx l _ c key bk w (HO.out.arr Pair.enc_len) hlen hmax hbk hk).mono ?_
    rintro e w0 ⟨rfl, hb0⟩
    rw [HF.out]
    go_wp2_with fail
    go_loopw [5, 6] (fun vi vj wr => ∃ (i k : Nat) (L : List Pair), vi = .int .i64 i ∧ vj = .int .i64 k ∧ Mid key l L i k ∧ Own Pair.enc 54 2 wr lo (some ⟨b, off, none⟩) c L ∧ w.grownBy wr (some b)) (fun _ vj _ => l.length - (intOf vj).toNat)
    case atStart => exact ⟨k, k + 1, l, rfl, by go_num, HMS.out, HO.out.below hb0, grown_below hb0⟩
    case round =>
      obtain ⟨i, j, L, rfl, rfl, hmid, hown, hgr⟩ := hrel
      have HM := hid hmid
      have HW := hid hown
      have HG := hid hgr
      have hlL := hmid.len
      have hik := hmid.ik
      have hjl := hmid.kl
      clear hmid hown hgr
      by_cases hlt : j < l.length
      · obtain ⟨b', off', hA, hB, c0, c1⟩ := (HW.out.arr Pair.enc_len).pair (i := j) (by omega)
        cases hA
        go_wp2_with fail
        have hba : Below wr.heap.size wr (wr.alloc (.cells #[.string L[j].key, .string L[j].val] 54)) := (Below.refl _ wr).alloc (Nat.le_refl _) _
        have hsz := HG.out.size
        have hkr : wr.cell? ⟨bk, 0, none⟩ = some (.string key) := (grown_cell HG.out (p := ⟨bk, 0, none⟩) hbk (by simp; exact fun h => hne' h.symm)).trans hk
        refine (drop1_fn L[j] key bk _ (by simp; omega) ((hba.cell (p := ⟨bk, 0, none⟩) (show bk < wr.heap.size by omega)).trans hkr)).mono ?_
        rintro e w4 ⟨rfl, hb4⟩
        have n0 : w4.cell? ⟨wr.heap.size, 0, none⟩ = some (.string L[j].key) := (hb4.cell (p := ⟨wr.heap.size, 0, none⟩) (by simp)).trans (by simp [go_sem])
        have n1 : w4.cell? ⟨wr.heap.size, 1, none⟩ = some (.string L[j].val) := (hb4.cell (p := ⟨wr.heap.size, 1, none⟩) (by simp)).trans (by simp [go_sem])
        have HW4 := hid ((HW.out.below hba).below hb4)
        have HG4 := hid (grown_trans HG.out (grown_trans (grown_below hba) (grown_below hb4)))
        have HLj := hid (HM.out.get hlt)
        cases hq : eqK key L[j] with
        | true =>
          have HQ := hid hq
          clear hq hb4 hba hsz hkr
          go_wp2_with fail
          go_roundw
          case rel => exact ⟨i, j + 1, L, rfl, by go_num, HM.out.skip hlt (HLj.out ▸ HQ.out), HW4.out, HG4.out⟩
          case measure => simp [intOf]; omega
        | false =>
          have HQ := hid hq
          obtain ⟨b', off', hA, hB', d0, d1⟩ := (HW4.out.arr Pair.enc_len).pair (i := i) (by omega)
          cases hA
          have f0 := HW4.out.frozen rfl (by omega) (off + i * 2)
          have f1 := HW4.out.frozen rfl (by omega) (off + i * 2 + 1)
          clear hq hb4 hba hsz hkr
          go_wp2_with fail
          go_roundw
          case rel =>
            refine ⟨i + 1, j + 1, L.set i L[j], by go_num, by go_num, ?_, HW4.out.setPair (by omega) L[j], ?_⟩
            · rw [HLj.out]; exact HM.out.keep hlt (HLj.out ▸ HQ.out)
            · exact grown_trans HG4.out (grown_trans (grown_setCell1 _ _ _) (grown_setCell1 _ _ _))
          case measure => simp [intOf]; omega
      · obtain rfl : j = l.length := by omega
        have hil : 0 < l.length - i := by omega
        have hci : ¬ (c = i) := by omega
        have hle : i ≤ l.length := by omega
        have hic : i ≤ c := by omega
        have hclr : ∀ ty cc, (Builtin.clear_ #[22] ty #[.slice (some ⟨b, off + i * 2, none⟩) (l.length - i) cc]).run Tryz.prog wr = .ok (.tuple #[]) (wr.setCells b (off + i * 2) (Builtin.zeroCells (Value.cells (.agg #[.string ByteArray.empty, .string ByteArray.empty])) (l.length - i)).toList) := fun ty cc => by
          obtain ⟨i0, hi0, hz0, hz1, hz2⟩ := info_parts info_pair
          obtain ⟨b', off', cur, hA, _, hh, hs, _⟩ : ∃ b' off' cur, (some (⟨b, off, none⟩ : Addr)) = some ⟨b', off', none⟩ ∧ lo ≤ b' ∧ wr.heap[b']? = some (.cells cur 54 (0, 0)) ∧ off' + c * 2 ≤ cur.size ∧ True := by
            rcases HW.out.2.2 with h0 | ⟨b', off', cur, h1, h2, h3, h4, _⟩
            · omega
            · exact ⟨b', off', cur, h1, h2, h3, h4, trivial⟩
          cases hA
          refine run_clear_k wr _ 54 ty _ Tryz.underlying22 (fun w => by simp [zeroValue, typeInfo, hi0, hz0]) (by intro v hv; simp [Value.cells] at hv; subst hv; rfl) b (off + i * 2) (l.length - i) cc hil (fun q hq => ?_) (fun q _ => frozen_of_row wr b _ _ _ hh)
          simp [Value.cells] at hq
          rw [cell_of_row wr b _ _ _ _ hh, Array.getElem?_eq_getElem (by omega)]; rfl
        have HCLR := hid hclr
        clear hclr
        go_wp2_with (first | (refine wpList_clear_by _ rfl (.tmp 38) 22 rfl (.slice (some ⟨b, off + i * 2, none⟩) (l.length - i) (c - i)) (by simp [Act.eval]) (HCLR.out _ _) ?_))
        go_ret
        have hli : i = (dropK key l).length := by
          have := congrArg List.length HM.out.head
          rw [List.length_take, List.take_length] at this
          omega
        have hd : L.take i = dropK key l := by rw [HM.out.head, List.take_length]
        refine ⟨by rw [← hli]; rfl, ?_, ?_⟩
        · rw [← hd]
          exact HW.out.cut (by omega) (by omega) _ (by simp [Builtin.zeroCells]; omega)
        · rw [rowOf, if_neg (by omega)]
          exact grown_trans HG.out (setCells_grown b _ _ wr)
end Go.Proofs.YtamcehfcjcmpmaaGreatDoor
namespace Go.Proofs.YtamcehfcjcmpmaaGreatDoor
open Go.RowKit

def GivesDrop (F : Nat → Prop) (p : Nat) (s : Shelf) (key : ByteArray) (w : World) (e : Ending) (w' : World) : Prop :=
  e = .returned (.bool (hasK s.pairs key)) ∧ Store F w' p ⟨dropK key s.pairs, s.queue⟩ ∧ Only F w w'
theorem dropK_len {key : ByteArray} {l : List Pair} : decide (((dropK key l).length : Int) < (l.length : Int)) = hasK l key := by
  unfold hasK dropK
  rw [decide_eq_decide]
  constructor
  · intro h
    refine Decidable.byContradiction fun hc => ?_
    have : l.filter (fun p => !eqK key p) = l := by
      rw [List.filter_eq_self]
      intro a ha
      cases hq : eqK key a with
      | false => rfl
      | true => exact absurd (List.findIdx_lt_length_of_exists ⟨a, ha, hq⟩) hc
    rw [this] at h
    omega
  · intro h
    have h1 := List.findIdx_getElem (w := h)
    have : (l.filter (fun p => !eqK key p)).length < l.length := by
      rw [List.length_filter_lt_length_iff_exists]
      exact ⟨_, List.getElem_mem h, by simp [h1]⟩
    omega
set_option maxHeartbeats 2000000 in
theorem drop_any (F : Nat → Prop) (p : Nat) (s : Shelf) (key : ByteArray) (w : World) (h : Store F w p s) (hF : ∀ j, w.heap.size ≤ j → F j) :
    Calls Tryz.prog 66 #[.pointer (some ⟨p, 0, none⟩), .string key] w (GivesDrop F p s key w) := by
  obtain ⟨PA, pc, QA, qc, h1, h2, h3, h4, h5⟩ := h
  have hp := lt_of_heap h1
  have c0 : w.cell? ⟨p, 0, none⟩ = some (.slice PA s.pairs.length pc) := by rw [cell_of_row w p 0 _ _ _ h1]; rfl
  have hb0 : Below w.heap.size w (w.alloc (.cells #[.string key] 9)) := (Below.refl _ w).alloc (Nat.le_refl _) _
  have HO := hid (h2.pairs.below hb0)
  have hlen := h2.pairs.len
  have hmax := h2.pairs.max
  have hpr1 : (w.alloc (.cells #[.string key] 9)).heap[p]? = some (.cells #[.slice PA s.pairs.length pc, .slice QA s.queue.length qc] 25 (0, 0)) := (hb0.block p hp).trans h1
  have HPR := hid hpr1
  have H2 := hid (show ShOwn (w.alloc (.cells #[.string key] 9)) 0 PA pc QA qc s from ⟨h2.pairs.below hb0, h2.queue.below hb0, h2.apart⟩)
  have H4 := hid h4
  have H5 := hid h5
  have HFr := hid hF
  have HB := hid hb0
  have hne : pc = 0 ∨ ∀ b off, PA = some ⟨b, off, none⟩ → w.heap.size ≠ b := by
    rcases h2.pairs.lt with h0 | ⟨b, off, hA, _, hlt⟩
    · exact .inl h0
    · exact .inr fun b' o' hA' => by rw [hA] at hA'; cases hA'; omega
  have HN := hid hne
  clear h1 h2 h4 h5 hF hb0 hpr1 hne
  go_enter Tryz.func66, Tryz.ntmps66
  go_wp2_with fail
  refine (del_any s.pairs PA pc 0 w.heap.size key _ HO.out (by simp) (by simp [go_sem]) HN.out).mono ?_
  rintro e w1 ⟨rfl, hown, hgr⟩
  have hp1 : w1.heap[p]? = some (.cells #[.slice PA s.pairs.length pc, .slice QA s.queue.length qc] 25 (0, 0)) := (hgr.block p (by simp; omega) fun hr => (HO.out.row H4.out p hr.symm).2 rfl).trans HPR.out
  have e10 : w1.cell? ⟨p, 0, none⟩ = some (.slice PA s.pairs.length pc) := by rw [cell_of_row w1 p 0 _ _ _ hp1]; rfl
  have f10 := frozen_of_row w1 p 0 _ _ hp1
  have HW := hid hown
  have HG := hid hgr
  clear hown hgr hp1
  go_wp2
  go_ret
  obtain ⟨r1, r2⟩ := Store.putPairs HPR.out H2.out h3 H4.out H5.out (fun j hj => HFr.out j (by simp at hj; omega)) (Below.refl _ _) HG.out HW.out (.inl ⟨rfl, rfl⟩) rfl
  exact ⟨ret_bool (by rw [← dropK_len]; simp only [Int.ofNat_lt]), r1, (Only.of_below HB.out).trans r2⟩
set_option maxHeartbeats 2000000 in
theorem do_del (K : Nat → Prop) (p q : Nat) (s : Shelf) (a : Ans) (c : Call0) (w : World) (h : SA K w p q s a) (hK : ∀ j, w.heap.size ≤ j → K j) :
    Calls Tryz.prog 65 #[.pointer (some ⟨p, 0, none⟩), .agg #[.int .i64 c.kind, .string c.key, .string c.val, .string c.to, .slice c.gA c.gn c.gc], .pointer (some ⟨q, 0, none⟩)] w
      (GivesDo K p q ⟨dropK c.key s.pairs, s.queue⟩ { a with found := hasK s.pairs c.key } w) := by
  have hb0 : Below w.heap.size w (w.alloc (.cells #[.int .i64 c.kind, .string c.key, .string c.val, .string c.to, .slice c.gA c.gn c.gc] 46)) := (Below.refl _ w).alloc (Nat.le_refl _) _
  obtain ⟨F, hS, hF, hST⟩ := (h.below hb0).part (fun j hj => hK j (by simp at hj; omega))
  have HS := hid hS
  have HFr := hid hF
  have HST := hid hST
  have HB := hid (Only.of_below (F := K) hb0)
  clear h hK hS hF hST hb0
  go_enter Tryz.func65, Tryz.ntmps65
  go_wp2_with fail
  refine (drop_any _ p s c.key _ HS.out HFr.out).mono ?_
  rintro e w1 ⟨rfl, hs1, ho1⟩
  obtain ⟨hsa, hon⟩ := HST.out w1 _ hs1 ho1
  obtain ⟨RA, rc, HA, hc, hq⟩ := hsa.row
  have eq1 : w1.cell? ⟨q, 1, none⟩ = some (.bool a.found) := by rw [cell_of_row w1 q 1 _ _ _ hq]; rfl
  have fq1 := frozen_of_row w1 q 1 _ _ hq
  have HQ := hid hsa
  have HO := hid hon
  clear hs1 ho1 hsa hon hq
  go_wp2
  refine bodyPost_ret (v := .tuple #[]) (by simp [results, Tryz.results65]) rfl ?_
  obtain ⟨r1, r2⟩ := HQ.out.setFound (hasK s.pairs c.key)
  exact ⟨rfl, r1, (HB.out.trans HO.out).trans r2⟩
end Go.Proofs.YtamcehfcjcmpmaaGreatDoor
