/- The doing of what is put in line. -/
import Derived.Test.YtamcehfcjcmpmaaGreatDoorIdl10
/- ideal.pop; what waits is pushed; the doings enq, deq, sync, get. -/
namespace Go.Proofs.YtamcehfcjcmpmaaGreatDoor
open Go.RowKit

theorem step_append_Own {α : Type} {enc : α → List Value} {e : TypeId} {k : Nat} {P : Program} (w : World) {ops : Array Oper} {o : Oper} {a : Act} {K : Act → World → Prop} {Q : Exit → Act → World → Prop} {E : Prop} (hgd : o.guard = none) (s x : Operand) (t : TypeId)
    (ho : o.op = .call { callee := .builtin .append, args := #[s, x], argTypes := #[t, t] })
    (i : TypeInfo) (z : Value) (bytes : Nat) (ht : P.underlying t = some (.slice e)) (hi : P.info? e = some i) (hz : i.zero = some z)
    (hsize : i.size = k) (hby : i.bytes = bytes) (hzs : z.cells.size = k) (hk0 : 0 < k) (hk : ∀ x, (enc x).length = k) (h1 : ∀ x, ∀ u ∈ enc x, u.oneCell' = true)
    {lo : Nat} {A : Option Addr} {c : Nat} {l : List α} (hs : a.eval s = .slice A l.length c) (own : Own enc e k w lo A c l) {B : Nat} {A2 : Option Addr} {m : List α} (c2 : Nat) (hx : a.eval x = .slice A2 m.length c2) (arr : Arr enc k w B A2 m)
    (h63 : l.length + m.length ≤ maxLen) (hbytes : (l.length + m.length) * bytes ≤ 140737488355328) (hlo : lo ≤ w.heap.size)
    (h : ∀ A' c' w', Own enc e k w' lo A' c' (l ++ m) → w.grownBy w' (rowOf A c) → (A' = A ∧ c' = c ∨ ∃ g, A' = some ⟨g, 0, none⟩ ∧ w.heap.size ≤ g) → K (a.put o.dst (.slice A' (l.length + m.length) c')) w') :
    if Region.wanted o (yielded ops a.tmps) = true then Oper.wp P o a w K Q else E := by
  have hw : Region.wanted o (yielded ops a.tmps) = true := by simp [Region.wanted, hgd]
  rw [if_pos hw]
  obtain ⟨A', c', w', hrun, h2, h3, h4⟩ := run_append_Own (P := P) w t o.type i z bytes ht hi hz hsize hby hzs hk0 hk h1 own arr c2 h63 hbytes hlo
  unfold Oper.wp execOp
  simp only [ho, resolve, invoke, builtin, Sem.run_bind, Sem.run_pure, Result.andThen_ok, List.map_toArray, List.map_cons, List.map_nil, hs, hx, hrun]
  exact h A' c' w' h2 h3 h4
/-- 's[m:]' of a slice of the call's own -/
theorem Own.drop1 {α : Type} {enc : α → List Value} {e : TypeId} {k : Nat} {w : World} {lo : Nat} {A : Option Addr} {c : Nat} {x : α} {l : List α} (hk : ∀ x, (enc x).length = k) (h : Own enc e k w lo A c (x :: l)) :
    Own enc e k w lo (if c = 1 then A else A.map (·.add k)) (c - 1) l := by
  obtain ⟨h1, h2, h3⟩ := h
  simp only [List.length_cons] at h1
  refine ⟨by omega, by omega, ?_⟩
  rcases h3 with h3 | ⟨b, off, cur, rfl, hlo, hh, hs, hc⟩
  · omega
  by_cases h11 : c = 1
  · exact .inl (by omega)
  · rw [if_neg h11]
    refine .inr ⟨b, off + k, cur, ?_, hlo, hh, ?_, fun j u hu => ?_⟩
    · by_cases h0 : k = 0 <;> simp [Addr.add, h0]
    · have : c * k = (c - 1) * k + k := by rw [← Nat.succ_mul]; congr 1; omega
      omega
    · have := hc (k + j) u (by rw [List.flatMap_cons, List.getElem?_append_right (by rw [hk]; omega), hk]; simpa using hu)
      rwa [← Nat.add_assoc] at this
theorem Lies.drop1 {F : Nat → Prop} {p : Nat} {A : Option Addr} {c k : Nat} (h : Lies F p A c) (hf : c = 0 ∨ ∃ b off, A = some ⟨b, off, none⟩) : Lies F p (if c = 1 then A else A.map (·.add k)) (c - 1) := by
  rcases Nat.lt_or_ge c 2 with h2 | h2
  · exact .inl (by omega)
  · rw [if_neg (by omega)]
    rcases h with h | h
    · omega
    · rcases hf with hf | ⟨b, off, rfl⟩
      · omega
      · refine .inr fun b' o' hA => ?_
        have : b' = b := by
          by_cases h0 : k = 0 <;> simp [Addr.add, h0] at hA <;> exact hA.1.symm
        subst this
        exact h b' off rfl
/-- a store whose queue is set anew -/
theorem Store.putQueue {F : Nat → Prop} {p : Nat} {s : Shelf} {w2 W w3 : World} {PA : Option Addr} {pc : Nat} {QA : Option Addr} {qc : Nat} {A' : Option Addr} {c' n : Nat} {l' : List ByteArray}
    (h1 : w2.heap[p]? = some (.cells #[.slice PA s.pairs.length pc, .slice QA s.queue.length qc] 25 (0, 0))) (h2 : ShOwn w2 0 PA pc QA qc s) (h3 : F p) (h4 : Lies F p PA pc) (h5 : Lies F p QA qc)
    (hF : ∀ j, w2.heap.size ≤ j → F j) (hW : Below w2.heap.size w2 W) (hgr : W.grownBy w3 (rowOf QA qc)) (hown : Own txt 9 1 w3 0 A' c' l') (hloc : A' = QA ∧ c' = qc ∨ ∃ g, A' = some ⟨g, 0, none⟩ ∧ W.heap.size ≤ g) (hn : n = l'.length) :
    Store F (w3.setCell ⟨p, 1, none⟩ (.slice A' n c')) p ⟨s.pairs, l'⟩ ∧ Only F w2 (w3.setCell ⟨p, 1, none⟩ (.slice A' n c')) := by
  subst hn
  have hp : p < w2.heap.size := lt_of_heap h1
  have hWs := hW.size
  have hrow := h2.queue.row h5
  have hon : Only F w2 w3 := (Only.of_below hW).trans (Only.grown hgr fun j hj => (hrow j hj).1)
  have hp3 : w3.heap[p]? = some (.cells #[.slice PA s.pairs.length pc, .slice QA s.queue.length qc] 25 (0, 0)) :=
    ((hgr.block p (by omega) fun hr => (hrow p hr.symm).2 rfl).trans (hW.block p hp)).trans h1
  have hlies : Lies F p A' c' := by
    rcases hloc with ⟨rfl, rfl⟩ | ⟨g, rfl, hg⟩
    · exact h5
    · exact .inr fun b o hA => by cases hA; exact ⟨hF _ (by omega), by omega⟩
  refine ⟨⟨PA, pc, A', c', ?_, ⟨?_, ?_, ?_⟩, h3, h4, hlies⟩, hon.setCell _ _ h3⟩
  · rw [heap_setCell_same w3 p 1 _ _ _ hp3]; rfl
  · refine Own.keep2 (h2.pairs.keep2 (w' := w3) ?_) (h4.imp id fun h b o hA _ => Below.heap_setCell _ _ _ _ (h b o hA).2)
    by_cases hp0 : pc = 0
    · exact .inl hp0
    · refine .inr fun b o hA hlt => (hgr.block b (by omega) fun hr => ?_).trans (hW.block b hlt)
      unfold rowOf at hr
      split at hr
      · cases hr
      · rcases h2.queue.2.2 with h0 | ⟨b', off', _, hQA, _⟩
        · exact absurd h0 ‹_›
        · subst hQA
          simp at hr
          rcases h2.apart b o b' off' hA rfl with h | h | h
          · exact hp0 h
          · exact absurd h ‹_›
          · exact h hr
  · exact hown.keep2 (hlies.imp id fun h b o hA _ => Below.heap_setCell _ _ _ _ (h b o hA).2)
  · rcases hloc with ⟨rfl, rfl⟩ | ⟨g, rfl, hg⟩
    · exact h2.apart
    · intro b o b' o' hA hB
      cases hB
      rcases h2.pairs.lt with h0 | ⟨b2, o2, hP, _, hlt⟩
      · exact .inl h0
      · rw [hP] at hA
        cases hA
        exact .inr (.inr (by omega))
/-- a store whose queue has lost its head -/
theorem Store.popQueue {F : Nat → Prop} {w : World} {p : Nat} {pairs : List Pair} {v : ByteArray} {q : List ByteArray} {PA : Option Addr} {pc b off qc : Nat}
    (h1 : w.heap[p]? = some (.cells #[.slice PA pairs.length pc, .slice (some ⟨b, off, none⟩) (q.length + 1) qc] 25 (0, 0))) (h2 : ShOwn w 0 PA pc (some ⟨b, off, none⟩) qc ⟨pairs, v :: q⟩) (h3 : F p) (h4 : Lies F p PA pc) (h5 : Lies F p (some ⟨b, off, none⟩) qc)
    (X : Option Addr) (hX : X = if qc = 1 then some ⟨b, off, none⟩ else some ⟨b, off + 1, none⟩) (c' : Nat) (hc' : c' = qc - 1) :
    Store F (w.setCell ⟨p, 1, none⟩ (.slice X q.length c')) p ⟨pairs, q⟩ ∧ Only F w (w.setCell ⟨p, 1, none⟩ (.slice X q.length c')) := by
  subst hc'
  have hX' : X = if qc = 1 then some ⟨b, off, none⟩ else (some ⟨b, off, none⟩ : Option Addr).map (·.add 1) := by rw [hX]; simp [Addr.add]
  have ho := h2.queue.drop1 txt_len
  have hl := h5.drop1 (k := 1) (.inr ⟨b, off, rfl⟩)
  rw [← hX'] at ho hl
  refine ⟨⟨PA, pc, X, qc - 1, ?_, ⟨?_, ?_, ?_⟩, h3, h4, hl⟩, (Only.refl _ _).setCell _ _ h3⟩
  · rw [heap_setCell_same w p 1 _ _ _ h1]; rfl
  · exact h2.pairs.keep2 (h4.imp id fun h b o hA _ => Below.heap_setCell _ _ _ _ (h b o hA).2)
  · exact ho.keep2 (hl.imp id fun h b o hA _ => Below.heap_setCell _ _ _ _ (h b o hA).2)
  · intro b1 o1 b2 o2 hA hB
    have hbb : b2 = b := by
      rw [hX] at hB
      split at hB <;> (cases hB; rfl)
    subst hbb
    rcases h2.apart b1 o1 b2 off hA rfl with h | h | h
    · exact .inl h
    · exact .inr (.inl (by omega))
    · exact .inr (.inr h)
def GivesPop (F : Nat → Prop) (p : Nat) (s : Shelf) (w : World) (e : Ending) (w' : World) : Prop :=
  e = .returned (.tuple #[.string (s.queue.headD ByteArray.empty), .bool (!s.queue.isEmpty)]) ∧ Store F w' p ⟨s.pairs, s.queue.tail⟩ ∧ Only F w w'
set_option maxHeartbeats 1000000 in
theorem pop_any (F : Nat → Prop) (p : Nat) (s : Shelf) (w : World) (h : Store F w p s) : Calls Tryz.prog 69 #[.pointer (some ⟨p, 0, none⟩)] w (GivesPop F p s w) := by
  have hst := h
  obtain ⟨PA, pc, QA, qc, h1, h2, h3, h4, h5⟩ := h
  have hp := lt_of_heap h1
  have c1 : w.cell? ⟨p, 1, none⟩ = some (.slice QA s.queue.length qc) := by rw [cell_of_row w p 1 _ _ _ h1]; rfl
  have hql := h2.queue.len
  have hqm := h2.queue.max
  obtain ⟨pairs, queue⟩ := s
  cases queue with
  | nil =>
    have HS := hid hst
    clear hst h1 h2 h4 h5
    go_enter Tryz.func69, Tryz.ntmps69
    go_wp2
    go_ret2
    exact ⟨rfl, HS.out, Only.refl _ _⟩
  | cons v q =>
    simp only [List.length_cons] at *
    obtain ⟨b, off, rfl, hB, k0⟩ := (h2.queue.arr txt_len).txt1 (i := 0) (by simp)
    have H1 := hid h1
    have H2 := hid h2
    have H4 := hid h4
    have H5 := hid h5
    have f1 := frozen_of_row w p 1 _ _ h1
    clear hst h1 h2 h4 h5
    simp only [Nat.add_zero, List.getElem_cons_zero] at k0
    go_enter Tryz.func69, Tryz.ntmps69
    go_wp2
    all_goals
      go_ret2
      refine ⟨rfl, (Store.popQueue H1.out H2.out h3 H4.out H5.out _ ?_ _ ?_).1, (Store.popQueue H1.out H2.out h3 H4.out H5.out _ ?_ _ ?_).2⟩
      all_goals first | omega | (rw [if_pos (by assumption)]; done) | (rw [if_neg (by assumption)]; done)

/-- what waits, with one thing behind it -/
theorem do_sync (K : Nat → Prop) (p q : Nat) (s : Shelf) (a : Ans) (c : Call0) (w : World) (h : SA K w p q s a) :
    Calls Tryz.prog 71 #[.pointer (some ⟨p, 0, none⟩), .agg #[.int .i64 c.kind, .string c.key, .string c.val, .string c.to, .slice c.gA c.gn c.gc], .pointer (some ⟨q, 0, none⟩)] w (GivesDo K p q s a w) := by
  have hb0 : Below w.heap.size w (w.alloc (.cells #[.int .i64 c.kind, .string c.key, .string c.val, .string c.to, .slice c.gA c.gn c.gc] 46)) := (Below.refl _ w).alloc (Nat.le_refl _) _
  have H := hid (h.below hb0)
  have HB := hid (Only.of_below (F := K) hb0)
  clear h hb0
  go_enter Tryz.func71, Tryz.ntmps71
  go_wp2
  refine bodyPost_ret (v := .tuple #[]) (by simp [results, Tryz.results71]) rfl ?_
  exact ⟨rfl, H.out, HB.out⟩
set_option maxHeartbeats 2000000 in
theorem do_deq (K : Nat → Prop) (p q : Nat) (s : Shelf) (a : Ans) (c : Call0) (w : World) (h : SA K w p q s a) (hK : ∀ j, w.heap.size ≤ j → K j) :
    Calls Tryz.prog 68 #[.pointer (some ⟨p, 0, none⟩), .agg #[.int .i64 c.kind, .string c.key, .string c.val, .string c.to, .slice c.gA c.gn c.gc], .pointer (some ⟨q, 0, none⟩)] w
      (GivesDo K p q ⟨s.pairs, s.queue.tail⟩ { a with value := s.queue.headD ByteArray.empty, found := !s.queue.isEmpty } w) := by
  have hb0 : Below w.heap.size w (w.alloc (.cells #[.int .i64 c.kind, .string c.key, .string c.val, .string c.to, .slice c.gA c.gn c.gc] 46)) := (Below.refl _ w).alloc (Nat.le_refl _) _
  obtain ⟨F, hS, hF, hST⟩ := (h.below hb0).part (fun j hj => hK j (by simp at hj; omega))
  have HS := hid hS
  have HST := hid hST
  have HB := hid (Only.of_below (F := K) hb0)
  clear h hK hS hF hST hb0
  obtain ⟨v, hv⟩ : ∃ v, v = s.queue.headD ByteArray.empty := ⟨_, rfl⟩
  obtain ⟨k, hk⟩ : ∃ k, k = !s.queue.isEmpty := ⟨_, rfl⟩
  rw [← hv, ← hk]
  have HV := hid hv
  have HK := hid hk
  clear hv hk
  go_enter Tryz.func68, Tryz.ntmps68
  go_wp2_with fail
  refine (pop_any _ p s _ HS.out).mono ?_
  rintro e w1 ⟨rfl, hs1, ho1⟩
  rw [← HV.out, ← HK.out]
  obtain ⟨hsa, hon⟩ := HST.out w1 _ hs1 ho1
  obtain ⟨RA, rc, HA, hc, hq⟩ := hsa.row
  have eq1 : w1.cell? ⟨q, 1, none⟩ = some (.bool a.found) := by rw [cell_of_row w1 q 1 _ _ _ hq]; rfl
  have eq2 : w1.cell? ⟨q, 2, none⟩ = some (.string a.value) := by rw [cell_of_row w1 q 2 _ _ _ hq]; rfl
  have fq1 := frozen_of_row w1 q 1 _ _ hq
  have fq2 := frozen_of_row w1 q 2 _ _ hq
  have HQ := hid hsa
  have HO := hid hon
  clear hs1 ho1 hsa hon hq
  go_wp2
  refine bodyPost_ret (v := .tuple #[]) (by simp [results, Tryz.results68]) rfl ?_
  obtain ⟨r1, r2⟩ := HQ.out.setValue v
  obtain ⟨r3, r4⟩ := r1.setFound k
  exact ⟨rfl, r3, ((HB.out.trans HO.out).trans r2).trans r4⟩
set_option maxHeartbeats 2000000 in
theorem do_get (K : Nat → Prop) (p q : Nat) (s : Shelf) (a : Ans) (c : Call0) (w : World) (h : SA K w p q s a) (_hK : ∀ j, w.heap.size ≤ j → K j) :
    Calls Tryz.prog 61 #[.pointer (some ⟨p, 0, none⟩), .agg #[.int .i64 c.kind, .string c.key, .string c.val, .string c.to, .slice c.gA c.gn c.gc], .pointer (some ⟨q, 0, none⟩)] w
      (GivesDo K p q s { a with value := (getD' s.pairs c.key).1, found := (getD' s.pairs c.key).2 } w) := by
  have hb0 : Below w.heap.size w (w.alloc (.cells #[.int .i64 c.kind, .string c.key, .string c.val, .string c.to, .slice c.gA c.gn c.gc] 46)) := (Below.refl _ w).alloc (Nat.le_refl _) _
  have hsa0 := h.below hb0
  have HB := hid hb0
  obtain ⟨RA0, rc0, HA0, hc0, hq1⟩ := h.row
  have hq0 := lt_of_heap hq1
  obtain ⟨F, G, ⟨PA, pc, QA, qc, h1, h2, h3, h4, h5⟩, _⟩ := h
  have hp := lt_of_heap h1
  have c0 : w.cell? ⟨p, 0, none⟩ = some (.slice PA s.pairs.length pc) := by rw [cell_of_row w p 0 _ _ _ h1]; rfl
  have c1 : w.cell? ⟨p, 1, none⟩ = some (.slice QA s.queue.length qc) := by rw [cell_of_row w p 1 _ _ _ h1]; rfl
  have HA := hid (h2.pairs.arr Pair.enc_len)
  have hlen := h2.pairs.len
  have hmax := h2.pairs.max
  have HS := hid hsa0
  obtain ⟨v, hv⟩ : ∃ v, v = (getD' s.pairs c.key).1 := ⟨_, rfl⟩
  obtain ⟨k, hk⟩ : ∃ k, k = (getD' s.pairs c.key).2 := ⟨_, rfl⟩
  rw [← hv, ← hk]
  have HV := hid hv
  have HK := hid hk
  clear hv hk hsa0 h1 h2 h4 h5 hb0 _hK hq1
  go_enter Tryz.func61, Tryz.ntmps61
  go_wp2_with fail
  go_region_with (go_at_call 62; refine (get_any s PA pc QA _ qc c.key _ ?_ hlen hmax).mono ?_; (exact (HA.out.below (by repeat (first | exact Below.refl _ _ | assumption | refine Below.drew ?_ | refine below_drewN ?_ _ | refine Below.alloc ?_ (by first | omega | (simp; done) | (simp; omega)) _ | refine Below.setCell ?_ (by first | omega | (simp; done) | (simp; omega)) _))).more (by first | omega | (simp; done) | (simp; omega))); rintro e w1 ⟨rfl, hb⟩; rw [← HV.out, ← HK.out]; have hsa := HS.out.below (Below.trans (b := (w.alloc (.cells #[.int .i64 c.kind, .string c.key, .string c.val, .string c.to, .slice c.gA c.gn c.gc] 46)).drew) (Below.drew (Below.refl _ _)) hb); obtain ⟨RA, rc, HA, hc, hq⟩ := hsa.row; have eq1 : w1.cell? ⟨q, 1, none⟩ = some (.bool a.found) := (by rw [cell_of_row w1 q 1 _ _ _ hq]; rfl); have eq2 : w1.cell? ⟨q, 2, none⟩ = some (.string a.value) := (by rw [cell_of_row w1 q 2 _ _ _ hq]; rfl); have fq1 := frozen_of_row w1 q 1 _ _ hq; have fq2 := frozen_of_row w1 q 2 _ _ hq)
  all_goals
    go_wp2
    refine bodyPost_ret (v := .tuple #[]) (by simp [results, Tryz.results61]) rfl ?_
    obtain ⟨r1, r2⟩ := hsa.setValue v
    obtain ⟨r3, r4⟩ := r1.setFound k
    exact ⟨rfl, r3, (((Only.of_below HB.out).trans (Only.of_below (Below.trans (b := (w.alloc (.cells #[.int .i64 c.kind, .string c.key, .string c.val, .string c.to, .slice c.gA c.gn c.gc] 46)).drew) (Below.drew (Below.refl _ _)) hb))).trans r2).trans r4⟩
end Go.Proofs.YtamcehfcjcmpmaaGreatDoor
/- The doing of a scan. -/
namespace Go.Proofs.YtamcehfcjcmpmaaGreatDoor
open Go.RowKit

def inR (lo hi : ByteArray) (x : Pair) : Bool := decide (0 ≤ cmpB x.key lo) && (hi.toList == ByteArray.empty.toList || decide (cmpB x.key hi < 0))
def scanned (lo hi : ByteArray) (l : List Pair) : List Pair := l.filter (inR lo hi)
theorem AnsAt.below {G : Nat → Prop} {w w' : World} {q : Nat} {a : Ans} (h : AnsAt G w q a) (hb : Below w.heap.size w w') : AnsAt G w' q a :=
  (h.clip.only (K := fun j => w.heap.size ≤ j) (Only.of_below hb) fun j hj => by have := hj.2; omega).mono fun j hj => hj.1
theorem scanned_len (lo hi : ByteArray) (l : List Pair) : (scanned lo hi l).length ≤ l.length := List.length_filter_le _ _
theorem scanned_succ {lo hi : ByteArray} {l : List Pair} {k : Nat} (hk : k < l.length) : scanned lo hi (l.take (k + 1)) = scanned lo hi (l.take k) ++ (if inR lo hi l[k] = true then [l[k]] else []) := by
  rw [List.take_succ_eq_append_getElem hk, scanned, List.filter_append]
  split <;> simp_all [scanned]
set_option maxHeartbeats 4000000 in
set_option maxRecDepth 100000 in
theorem do_scan (K : Nat → Prop) (p q : Nat) (s : Shelf) (a : Ans) (c : Call0) (w : World) (h : SA K w p q s a) (hK : ∀ j, w.heap.size ≤ j → K j) (hl : s.pairs.length ≤ 100000) (hla : a.pairs.length ≤ 100000) :
    Calls Tryz.prog 70 #[.pointer (some ⟨p, 0, none⟩), .agg #[.int .i64 c.kind, .string c.key, .string c.val, .string c.to, .slice c.gA c.gn c.gc], .pointer (some ⟨q, 0, none⟩)] w
      (GivesDo K p q s { a with pairs := a.pairs ++ scanned c.key c.to s.pairs } w) := by
  have hb0 : Below w.heap.size w (w.alloc (.cells #[.int .i64 c.kind, .string c.key, .string c.val, .string c.to, .slice c.gA c.gn c.gc] 46)) := (Below.refl _ w).alloc (Nat.le_refl _) _
  obtain ⟨F, G, hS, hA, hFG, hFK, hGK⟩ := h
  obtain ⟨PA, pc, QA, qc, h1, h2, h3, h4, h5⟩ := hS.clip
  have hp0 := lt_of_heap h1
  have c0 : w.cell? ⟨p, 0, none⟩ = some (.slice PA s.pairs.length pc) := by rw [cell_of_row _ p 0 _ _ _ h1]; rfl
  have hlen := h2.pairs.len
  have hmax := h2.pairs.max
  obtain ⟨i0, hi0, hz0, hz1, hz2⟩ := info_parts info_pair
  -- the footprint that may turn
  obtain ⟨G1, hG1⟩ : ∃ G1 : Nat → Prop, G1 = fun j => (G j ∧ j < w.heap.size) ∨ w.heap.size + 1 ≤ j := ⟨_, rfl⟩
  have HG1 := hid (show ∀ j, G1 j ↔ (G j ∧ j < w.heap.size) ∨ w.heap.size + 1 ≤ j from fun j => by rw [hG1])
  have hans : AnsAt G1 (w.alloc (.cells #[.int .i64 c.kind, .string c.key, .string c.val, .string c.to, .slice c.gA c.gn c.gc] 46)) q a := (hA.clip.only (Only.of_below (F := fun j => w.heap.size ≤ j) hb0) fun j hj => by omega).mono fun j hj => (HG1.out j).2 (.inl hj)
  have HP := hid (fun (wr : World) (ho : Only G1 (w.alloc (.cells #[.int .i64 c.kind, .string c.key, .string c.val, .string c.to, .slice c.gA c.gn c.gc] 46)) wr) => show Own Pair.enc 54 2 wr 0 PA pc s.pairs from
    (h2.pairs.below hb0).keep2 (h4.imp id fun h b o hA _ => ho.block b (by have := (h b o hA).1.2; simp; omega) fun hg => by
      have hf := (h b o hA).1
      rcases (HG1.out b).1 hg with hg | hg
      · exact hFG b hf.1 hg.1
      · omega))
  have HEND := hid (fun (wr : World) (a' : Ans) (ha : AnsAt G1 wr q a') (ho : Only G1 (w.alloc (.cells #[.int .i64 c.kind, .string c.key, .string c.val, .string c.to, .slice c.gA c.gn c.gc] 46)) wr) => show SA K wr p q s a' ∧ Only K w wr from by
    have hfg : ∀ j, F j ∧ j < w.heap.size → ¬ G1 j := fun j hj hg => by
      rcases (HG1.out j).1 hg with hg | hg
      · exact hFG j hj.1 hg.1
      · omega
    have hgk : ∀ j, G1 j → K j := fun j hg => by
      rcases (HG1.out j).1 hg with hg | hg
      · exact hGK j hg.1
      · exact hK j (by omega)
    exact ⟨⟨_, G1, (hS.clip.only (Only.of_below (F := fun j => w.heap.size ≤ j) hb0) fun j hj => by omega).only ho hfg, ha, hfg, fun j hj => hFK j hj.1, hgk⟩, (Only.of_below hb0).trans (ho.mono hgk)⟩)
  have HANS := hid hans
  have HI := hid hi0
  have HZ0 := hid hz0
  have HZ1 := hid hz1
  have HZ2 := hid hz2
  have HL := hid hl
  have HLA := hid hla
  clear hS hA hFG hFK hGK h1 h2 h3 h4 h5 hi0 hz0 hz1 hz2 hG1 hans hK hl hla
  go_enter Tryz.func70, Tryz.ntmps70
  go_wp2_with fail
  go_loopw [13] (fun i wr => ∃ k : Nat, k ≤ s.pairs.length ∧ i = .int .i64 k ∧ AnsAt G1 wr q { a with pairs := a.pairs ++ scanned c.key c.to (s.pairs.take k) } ∧ Only G1 (w.alloc (.cells #[.int .i64 c.kind, .string c.key, .string c.val, .string c.to, .slice c.gA c.gn c.gc] 46)) wr) (fun i _ => s.pairs.length - (intOf i).toNat)
  case atStart => exact ⟨0, Nat.zero_le _, rfl, by simpa [scanned] using HANS.out, Only.refl _ _⟩
  case round =>
    obtain ⟨k, hkl, rfl, hans, ho⟩ := hrel
    obtain ⟨L, hL⟩ : ∃ L, L = a.pairs ++ scanned c.key c.to (s.pairs.take k) := ⟨_, rfl⟩
    rw [← hL] at hans
    have HL1 := hid hL
    have HLL := hid (show L.length ≤ 200000 by have h1 := scanned_len c.key c.to (s.pairs.take k); have h2 := HL.out; have h3 := HLA.out; rw [hL, List.length_append]; rw [List.length_take] at h1; omega)
    have HA := hid hans
    clear hL
    have HO := hid ho
    have hsz : w.heap.size + 1 ≤ wr.heap.size := by have := ho.size; simpa using this
    have hrow : wr.heap[w.heap.size]? = some (.cells #[.int .i64 c.kind, .string c.key, .string c.val, .string c.to, .slice c.gA c.gn c.gc] 46 (0, 0)) :=
      (ho.block w.heap.size (by simp) fun hg => by rcases (HG1.out _).1 hg with h | h <;> omega).trans (by rw [heap_alloc_if, if_pos rfl])
    have b1 : wr.cell? ⟨w.heap.size, 1, none⟩ = some (.string c.key) := by rw [cell_of_row wr _ 1 _ _ _ hrow]; rfl
    have b3 : wr.cell? ⟨w.heap.size, 3, none⟩ = some (.string c.to) := by rw [cell_of_row wr _ 3 _ _ _ hrow]; rfl
    have hszl : w.heap.size < wr.heap.size := by omega
    have HR := hid hrow
    clear hans ho hrow
    by_cases hlt : k < s.pairs.length
    · obtain ⟨b, off, rfl, hB, c0', c1'⟩ := ((HP.out wr HO.out).arr Pair.enc_len).pair hlt
      by_cases t1 : 0 ≤ cmpB s.pairs[k].key c.key
      case neg =>
        have HQ := hid (show inR c.key c.to s.pairs[k] = false by simp [inR, t1])
        go_wp2_with (go_at_call 84; refine (cmp_any _ _ _).mono ?_; rintro e w' ⟨rfl, rfl⟩)
        refine ⟨⟨k + 1, by omega, by go_num, ?_, HO.out.trans (Only.of_below ((Below.refl _ wr).alloc (Nat.le_refl _) _))⟩, by simp [intOf]; omega⟩
        have := HA.out.below ((Below.refl _ wr).alloc (Nat.le_refl _) (.cells #[.string s.pairs[k].key, .string s.pairs[k].val] 54))
        rw [scanned_succ hlt, HQ.out, HL1.out] at *
        simpa [HL1.out] using this
      by_cases t2 : c.to.toList = []
      case pos =>
        have HQ := hid (show inR c.key c.to s.pairs[k] = true by simp [inR, t1, t2])
        go_wp2_with (go_at_call 84; refine (cmp_any _ _ _).mono ?_; rintro e w' ⟨rfl, rfl⟩)
        obtain ⟨RA, rc, HAd, hcd, q1, q2, q3, q4, q5, q6, q7⟩ := HA.out.below ((Below.refl _ wr).alloc (Nat.le_refl _) (.cells #[.string s.pairs[k].key, .string s.pairs[k].val] 54))
        have y3 : (wr.alloc (.cells #[.string s.pairs[k].key, .string s.pairs[k].val] 54)).cell? ⟨q, 3, none⟩ = some (.slice RA L.length rc) := by rw [cell_of_row _ q 3 _ _ _ q1]; rfl
        have hq3 := lt_of_heap q1
        have HQ1 := hid q1
        have HQ2 := hid q2
        have HQ3 := hid q3
        have HQ5 := hid q5
        have HQ6 := hid q6
        have HQ7 := hid q7
        clear q1 q2 q3 q5 q6 q7
        simp only [World.size_alloc] at hq3
        go_region_law (refine step_append_Own (l := L) (m := [s.pairs[k]]) (A := RA) (c := rc) (lo := 0) _ rfl (.tmp 40) (.tmp 42) 22 rfl i0 _ 32 Tryz.underlying22 HI.out HZ0.out HZ1.out HZ2.out rfl (by decide) Pair.enc_len Pair.enc_one (by simp [Act.eval]) (HQ2.out.below (by repeat (first | exact Below.refl _ _ | assumption | refine Below.drew ?_ | refine below_drewN ?_ _ | refine Below.alloc ?_ (by first | omega | (simp; done) | (simp; omega)) _ | refine Below.setCell ?_ (by first | omega | (simp; done) | (simp; omega)) _))) (A2 := some ⟨wr.heap.size + 1, 0, none⟩) 1 (by simp [Act.eval]) (arr_onePair (vb := wr.heap.size + 1) (x := s.pairs[k]) (by rw [show ∀ (x : World), x.drew.heap = x.heap from fun _ => rfl, heap_alloc_if, if_pos (by simp)]; rfl)) (by have := HLL.out; unfold maxLen; simp; omega) (by have := HLL.out; simp; omega) (Nat.zero_le _) ?_; intro A' c' w' hown hgr hloc; have hpp : w'.heap[q]? = _ := (hgr.block q (by simp; omega) fun hr => (HQ2.out.row HQ5.out q hr.symm).2 rfl).trans ((Below.heap_alloc _ _ q (by simp; omega)).trans HQ1.out); have e31 : w'.cell? ⟨q, 3, none⟩ = some (.slice RA L.length rc) := (by rw [cell_of_row w' q 3 _ _ _ hpp]; rfl); have f31 := frozen_of_row w' q 3 _ _ hpp)
        all_goals go_wp2
        all_goals
          refine ⟨⟨k + 1, by omega, by go_num, ?_, HO.out.trans ((Only.of_below ((Below.refl _ wr).alloc (Nat.le_refl _) _)).trans (AnsAt.putPairs HQ1.out HQ2.out HQ3.out q4 HQ5.out HQ6.out HQ7.out (fun j hj => (HG1.out j).2 (.inr (by simp at hj; omega))) (by repeat (first | exact Below.refl _ _ | assumption | refine Below.drew ?_ | refine below_drewN ?_ _ | refine Below.alloc ?_ (by first | omega | (simp; done) | (simp; omega)) _ | refine Below.setCell ?_ (by first | omega | (simp; done) | (simp; omega)) _)) hgr hown hloc (by simp)).2)⟩, by simp [intOf]; omega⟩
          rw [scanned_succ hlt, HQ.out, if_pos rfl, ← List.append_assoc, ← HL1.out]
          exact (AnsAt.putPairs HQ1.out HQ2.out HQ3.out q4 HQ5.out HQ6.out HQ7.out (fun j hj => (HG1.out j).2 (.inr (by simp at hj; omega))) (by repeat (first | exact Below.refl _ _ | assumption | refine Below.drew ?_ | refine below_drewN ?_ _ | refine Below.alloc ?_ (by first | omega | (simp; done) | (simp; omega)) _ | refine Below.setCell ?_ (by first | omega | (simp; done) | (simp; omega)) _)) hgr hown hloc (by simp)).1
      have t3 : c.to.toList.isEmpty = false := by simpa using t2
      by_cases t4 : cmpB s.pairs[k].key c.to < 0
      case neg =>
        have HQ := hid (show inR c.key c.to s.pairs[k] = false by simp [inR, t1, t2, t4])
        have t5 : 0 ≤ cmpB s.pairs[k].key c.to := by omega
        go_wp2_with (go_at_call 84; refine (cmp_any _ _ _).mono ?_; rintro e w' ⟨rfl, rfl⟩)
        refine ⟨⟨k + 1, by omega, by go_num, ?_, HO.out.trans (Only.of_below ((Below.refl _ wr).alloc (Nat.le_refl _) _))⟩, by simp [intOf]; omega⟩
        have := HA.out.below ((Below.refl _ wr).alloc (Nat.le_refl _) (.cells #[.string s.pairs[k].key, .string s.pairs[k].val] 54))
        rw [scanned_succ hlt, HQ.out, HL1.out] at *
        simpa [HL1.out] using this
      case pos =>
        have HQ := hid (show inR c.key c.to s.pairs[k] = true by simp [inR, t1, t4])
        go_wp2_with (go_at_call 84; refine (cmp_any _ _ _).mono ?_; rintro e w' ⟨rfl, rfl⟩)
        obtain ⟨RA, rc, HAd, hcd, q1, q2, q3, q4, q5, q6, q7⟩ := HA.out.below ((Below.refl _ wr).alloc (Nat.le_refl _) (.cells #[.string s.pairs[k].key, .string s.pairs[k].val] 54))
        have y3 : (wr.alloc (.cells #[.string s.pairs[k].key, .string s.pairs[k].val] 54)).cell? ⟨q, 3, none⟩ = some (.slice RA L.length rc) := by rw [cell_of_row _ q 3 _ _ _ q1]; rfl
        have hq3 := lt_of_heap q1
        have HQ1 := hid q1
        have HQ2 := hid q2
        have HQ3 := hid q3
        have HQ5 := hid q5
        have HQ6 := hid q6
        have HQ7 := hid q7
        clear q1 q2 q3 q5 q6 q7
        simp only [World.size_alloc] at hq3
        go_region_law (refine step_append_Own (l := L) (m := [s.pairs[k]]) (A := RA) (c := rc) (lo := 0) _ rfl (.tmp 40) (.tmp 42) 22 rfl i0 _ 32 Tryz.underlying22 HI.out HZ0.out HZ1.out HZ2.out rfl (by decide) Pair.enc_len Pair.enc_one (by simp [Act.eval]) (HQ2.out.below (by repeat (first | exact Below.refl _ _ | assumption | refine Below.drew ?_ | refine below_drewN ?_ _ | refine Below.alloc ?_ (by first | omega | (simp; done) | (simp; omega)) _ | refine Below.setCell ?_ (by first | omega | (simp; done) | (simp; omega)) _))) (A2 := some ⟨wr.heap.size + 1, 0, none⟩) 1 (by simp [Act.eval]) (arr_onePair (vb := wr.heap.size + 1) (x := s.pairs[k]) (by rw [show ∀ (x : World), x.drew.heap = x.heap from fun _ => rfl, heap_alloc_if, if_pos (by simp)]; rfl)) (by have := HLL.out; unfold maxLen; simp; omega) (by have := HLL.out; simp; omega) (Nat.zero_le _) ?_; intro A' c' w' hown hgr hloc; have hpp : w'.heap[q]? = _ := (hgr.block q (by simp; omega) fun hr => (HQ2.out.row HQ5.out q hr.symm).2 rfl).trans ((Below.heap_alloc _ _ q (by simp; omega)).trans HQ1.out); have e31 : w'.cell? ⟨q, 3, none⟩ = some (.slice RA L.length rc) := (by rw [cell_of_row w' q 3 _ _ _ hpp]; rfl); have f31 := frozen_of_row w' q 3 _ _ hpp)
        all_goals go_wp2
        all_goals
          refine ⟨⟨k + 1, by omega, by go_num, ?_, HO.out.trans ((Only.of_below ((Below.refl _ wr).alloc (Nat.le_refl _) _)).trans (AnsAt.putPairs HQ1.out HQ2.out HQ3.out q4 HQ5.out HQ6.out HQ7.out (fun j hj => (HG1.out j).2 (.inr (by simp at hj; omega))) (by repeat (first | exact Below.refl _ _ | assumption | refine Below.drew ?_ | refine below_drewN ?_ _ | refine Below.alloc ?_ (by first | omega | (simp; done) | (simp; omega)) _ | refine Below.setCell ?_ (by first | omega | (simp; done) | (simp; omega)) _)) hgr hown hloc (by simp)).2)⟩, by simp [intOf]; omega⟩
          rw [scanned_succ hlt, HQ.out, if_pos rfl, ← List.append_assoc, ← HL1.out]
          exact (AnsAt.putPairs HQ1.out HQ2.out HQ3.out q4 HQ5.out HQ6.out HQ7.out (fun j hj => (HG1.out j).2 (.inr (by simp at hj; omega))) (by repeat (first | exact Below.refl _ _ | assumption | refine Below.drew ?_ | refine below_drewN ?_ _ | refine Below.alloc ?_ (by first | omega | (simp; done) | (simp; omega)) _ | refine Below.setCell ?_ (by first | omega | (simp; done) | (simp; omega)) _)) hgr hown hloc (by simp)).1
    · go_wp2
      refine bodyPost_ret (v := .tuple #[]) (by simp [results, Tryz.results70]) rfl ?_
      have hkk : s.pairs.take k = s.pairs := List.take_of_length_le (by omega)
      rw [HL1.out, hkk] at HA
      exact ⟨rfl, HEND.out _ _ HA.out HO.out⟩
end Go.Proofs.YtamcehfcjcmpmaaGreatDoor
namespace Go.Proofs.YtamcehfcjcmpmaaGreatDoor
open Go.RowKit

theorem arr_one_txt {w : World} {vb : Nat} {x : ByteArray} (hv : w.heap[vb]? = some (.cells #[.string x] 9 (0, 0))) : Arr txt 1 w w.heap.size (some ⟨vb, 0, none⟩) [x] := by
  refine Arr.of_cells txt_len (lt_of_heap hv) fun j u hu => ?_
  rw [Nat.zero_add, cell_of_row w vb j _ _ _ hv]
  simpa [txt] using hu
set_option maxHeartbeats 2000000 in
theorem do_enq (K : Nat → Prop) (p q : Nat) (s : Shelf) (a : Ans) (c : Call0) (w : World) (h : SA K w p q s a) (hK : ∀ j, w.heap.size ≤ j → K j) (hl : s.queue.length ≤ 100000) :
    Calls Tryz.prog 67 #[.pointer (some ⟨p, 0, none⟩), .agg #[.int .i64 c.kind, .string c.key, .string c.val, .string c.to, .slice c.gA c.gn c.gc], .pointer (some ⟨q, 0, none⟩)] w
      (GivesDo K p q ⟨s.pairs, s.queue ++ [c.val]⟩ a w) := by
  have hb0 : Below w.heap.size w (w.alloc (.cells #[.int .i64 c.kind, .string c.key, .string c.val, .string c.to, .slice c.gA c.gn c.gc] 46)) := (Below.refl _ w).alloc (Nat.le_refl _) _
  obtain ⟨F, hS, hF, hST⟩ := (h.below hb0).part (fun j hj => hK j (by simp at hj; omega))
  obtain ⟨PA, pc, QA, qc, h1, h2, h3, h4, h5⟩ := hS
  have hp0 : p < w.heap.size + 1 := by have := lt_of_heap h1; simpa using this
  have c1 : (w.alloc (.cells #[.int .i64 c.kind, .string c.key, .string c.val, .string c.to, .slice c.gA c.gn c.gc] 46)).cell? ⟨p, 1, none⟩ = some (.slice QA s.queue.length qc) := by rw [cell_of_row _ p 1 _ _ _ h1]; rfl
  obtain ⟨i0, hi0, hz0, hz1, hz2⟩ := info_parts info_string
  obtain ⟨W, hW⟩ : ∃ W, W = (w.alloc (.cells #[.int .i64 c.kind, .string c.key, .string c.val, .string c.to, .slice c.gA c.gn c.gc] 46)) := ⟨_, rfl⟩
  have HO := hid h2
  have H1 := hid h1
  have H4 := hid h4
  have H5 := hid h5
  have HFr := hid hF
  have HST := hid hST
  have HB := hid (Only.of_below (F := K) hb0)
  have HL := hid hl
  have HI := hid hi0
  have HZ0 := hid hz0
  have HZ1 := hid hz1
  have HZ2 := hid hz2
  clear h hK hF hST hb0 h1 h2 h4 h5 hi0 hz0 hz1 hz2 hl
  go_enter Tryz.func67, Tryz.ntmps67
  go_wp2_with fail
  go_region_law (refine step_append_Own (l := s.queue) (m := [c.val]) (A := QA) (c := qc) (lo := 0) _ rfl (.tmp 10) (.tmp 13) 23 rfl i0 _ 16 Tryz.underlying23 HI.out HZ0.out HZ1.out HZ2.out rfl (by decide) txt_len txt_one (by simp [Act.eval]) (HO.out.queue.below (by repeat (first | exact Below.refl _ _ | assumption | refine Below.drew ?_ | refine below_drewN ?_ _ | refine Below.alloc ?_ (by first | omega | (simp; done) | (simp; omega)) _ | refine Below.setCell ?_ (by first | omega | (simp; done) | (simp; omega)) _))) (A2 := some ⟨w.heap.size + 1, 0, none⟩) 1 (by simp [Act.eval]) (arr_one_txt (vb := w.heap.size + 1) (x := c.val) (by rw [show ∀ (x : World), x.drew.heap = x.heap from fun _ => rfl, heap_alloc_if, if_pos (by simp)])) (by have := HL.out; unfold maxLen; simp; omega) (by have := HL.out; simp; omega) (Nat.zero_le _) ?_; intro A' c' w' hown hgr hloc; have hp3 : w'.heap[p]? = some (.cells #[.slice PA s.pairs.length pc, .slice QA s.queue.length qc] 25 (0, 0)) := (hgr.block p (by simp; omega) fun hr => (HO.out.queue.row H5.out p hr.symm).2 rfl).trans ((Below.heap_alloc _ _ p (by simp; omega)).trans H1.out); have e31 : w'.cell? ⟨p, 1, none⟩ = some (.slice QA s.queue.length qc) := (by rw [cell_of_row w' p 1 _ _ _ hp3]; rfl); have f31 := frozen_of_row w' p 1 _ _ hp3)
  all_goals
    go_wp2
    refine bodyPost_ret (v := .tuple #[]) (by simp [results, Tryz.results67]) rfl ?_
    obtain ⟨r1, r2⟩ := Store.putQueue H1.out HO.out h3 H4.out H5.out HFr.out (by repeat (first | exact Below.refl _ _ | assumption | refine Below.drew ?_ | refine below_drewN ?_ _ | refine Below.alloc ?_ (by first | omega | (simp; done) | (simp; omega)) _ | refine Below.setCell ?_ (by first | omega | (simp; done) | (simp; omega)) _)) hgr hown hloc (by simp : s.queue.length + [c.val].length = _)
    obtain ⟨r3, r4⟩ := HST.out _ _ r1 r2
    exact ⟨rfl, r3, HB.out.trans r4⟩
end Go.Proofs.YtamcehfcjcmpmaaGreatDoor
