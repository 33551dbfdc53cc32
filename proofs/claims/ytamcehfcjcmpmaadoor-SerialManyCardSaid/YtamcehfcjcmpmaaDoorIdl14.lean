/- The doing of a scan. -/
import Derived.Test.YtamcehfcjcmpmaaDoorIdl13
import Derived.Test.YtamcehfcjcmpmaaDoorIdl11
namespace Go.Proofs.YtamcehfcjcmpmaaDoor
open Go.RowKit

def inR (lo hi : ByteArray) (x : Pair) : Bool := decide (0 ≤ cmpB x.key lo) && (hi.toList == ByteArray.empty.toList || decide (cmpB x.key hi < 0))
def scanned (lo hi : ByteArray) (l : List Pair) : List Pair := l.filter (inR lo hi)
theorem AnsAt.below {G : Nat → Prop} {w w' : World} {q : Nat} {a : Ans} (h : AnsAt G w q a) (hb : Below w.heap.size w w') : AnsAt G w' q a :=
  (h.clip.only (K := fun j => w.heap.size ≤ j) (Only.of_below hb) fun j hj => by have := hj.2; omega).mono fun j hj => hj.1
theorem scanned_len (lo hi : ByteArray) (l : List Pair) : (scanned lo hi l).length ≤ l.length := List.length_filter_le _ _
theorem scanned_succ {lo hi : ByteArray} {l : List Pair} {k : Nat} (hk : k < l.length) : scanned lo hi (l.take (k + 1)) = scanned lo hi (l.take k) ++ (if inR lo hi l[k] = true then [l[k]] else []) := by
  rw [List.take_succ_eq_append_getElem hk, scanned, List.filter_append]
  split <;> simp_all [scanned]
set_option maxHeartbeats 4000000 in
set_option maxRecDepth 100000 in
theorem do_scan (K : Nat → Prop) (p q : Nat) (s : Shelf) (a : Ans) (c : Call0) (w : World) (h : SA K w p q s a) (hK : ∀ j, w.heap.size ≤ j → K j) (hl : s.pairs.length ≤ 100000) (hla : a.pairs.length ≤ 100000) :
    Calls Tryd.prog 47 #[.pointer (some ⟨p, 0, none⟩), .agg #[.int .i64 c.kind, .string c.key, .string c.val, .string c.to, .slice c.gA c.gn c.gc], .pointer (some ⟨q, 0, none⟩)] w
      (GivesDo K p q s { a with pairs := a.pairs ++ scanned c.key c.to s.pairs } w) := by
  have hb0 : Below w.heap.size w (w.alloc (.cells #[.int .i64 c.kind, .string c.key, .string c.val, .string c.to, .slice c.gA c.gn c.gc] 33)) := (Below.refl _ w).alloc (Nat.le_refl _) _
  obtain ⟨F, G, hS, hA, hFG, hFK, hGK⟩ := h
  obtain ⟨PA, pc, QA, qc, h1, h2, h3, h4, h5⟩ := hS.clip
  have hp0 := lt_of_heap h1
  have c0 : w.cell? ⟨p, 0, none⟩ = some (.slice PA s.pairs.length pc) := by rw [cell_of_row _ p 0 _ _ _ h1]; rfl
  have hlen := h2.pairs.len
  have hmax := h2.pairs.max
  obtain ⟨i0, hi0, hz0, hz1, hz2⟩ := info_parts info_pair
  -- the footprint that may turn
  obtain ⟨G1, hG1⟩ : ∃ G1 : Nat → Prop, G1 = fun j => (G j ∧ j < w.heap.size) ∨ w.heap.size + 1 ≤ j := ⟨_, rfl⟩
  have HG1 := hid (show ∀ j, G1 j ↔ (G j ∧ j < w.heap.size) ∨ w.heap.size + 1 ≤ j from fun j => by rw [hG1])
  have hans : AnsAt G1 (w.alloc (.cells #[.int .i64 c.kind, .string c.key, .string c.val, .string c.to, .slice c.gA c.gn c.gc] 33)) q a := (hA.clip.only (Only.of_below (F := fun j => w.heap.size ≤ j) hb0) fun j hj => by omega).mono fun j hj => (HG1.out j).2 (.inl hj)
  have HP := hid (fun (wr : World) (ho : Only G1 (w.alloc (.cells #[.int .i64 c.kind, .string c.key, .string c.val, .string c.to, .slice c.gA c.gn c.gc] 33)) wr) => show Own Pair.enc 53 2 wr 0 PA pc s.pairs from
    (h2.pairs.below hb0).keep2 (h4.imp id fun h b o hA _ => ho.block b (by have := (h b o hA).1.2; simp; omega) fun hg => by
      have hf := (h b o hA).1
      rcases (HG1.out b).1 hg with hg | hg
      · exact hFG b hf.1 hg.1
      · omega))
  have HEND := hid (fun (wr : World) (a' : Ans) (ha : AnsAt G1 wr q a') (ho : Only G1 (w.alloc (.cells #[.int .i64 c.kind, .string c.key, .string c.val, .string c.to, .slice c.gA c.gn c.gc] 33)) wr) => show SA K wr p q s a' ∧ Only K w wr from by
    have hfg : ∀ j, F j ∧ j < w.heap.size → ¬ G1 j := fun j hj hg => by
      rcases (HG1.out j).1 hg with hg | hg
      · exact hFG j hj.1 hg.1
      · omega
    have hgk : ∀ j, G1 j → K j := fun j hg => by
      rcases (HG1.out j).1 hg with hg | hg
      · exact hGK j hg.1
      · exact hK j (by omega)
    exact ⟨⟨_, G1, (hS.clip.only (Only.of_below (F := fun j => w.heap.size ≤ j) hb0) fun j hj => by omega).only ho hfg, ha, hfg, fun j hj => hFK j hj.1, hgk⟩, (Only.of_below hb0).trans (ho.mono hgk)⟩)
  have HANS := hid hans
  have HI := hid hi0
  have HZ0 := hid hz0
  have HZ1 := hid hz1
  have HZ2 := hid hz2
  have HL := hid hl
  have HLA := hid hla
  clear hS hA hFG hFK hGK h1 h2 h3 h4 h5 hi0 hz0 hz1 hz2 hG1 hans hK hl hla
  go_enter Tryd.func47, Tryd.ntmps47
  go_wp2_with fail
  go_loopw [13] (fun i wr => ∃ k : Nat, k ≤ s.pairs.length ∧ i = .int .i64 k ∧ AnsAt G1 wr q { a with pairs := a.pairs ++ scanned c.key c.to (s.pairs.take k) } ∧ Only G1 (w.alloc (.cells #[.int .i64 c.kind, .string c.key, .string c.val, .string c.to, .slice c.gA c.gn c.gc] 33)) wr) (fun i _ => s.pairs.length - (intOf i).toNat)
  case atStart => exact ⟨0, Nat.zero_le _, rfl, by simpa [scanned] using HANS.out, Only.refl _ _⟩
  case round =>
    obtain ⟨k, hkl, rfl, hans, ho⟩ := hrel
    obtain ⟨L, hL⟩ : ∃ L, L = a.pairs ++ scanned c.key c.to (s.pairs.take k) := ⟨_, rfl⟩
    rw [← hL] at hans
    have HL1 := hid hL
    have HLL := hid (show L.length ≤ 200000 by have h1 := scanned_len c.key c.to (s.pairs.take k); have h2 := HL.out; have h3 := HLA.out; rw [hL, List.length_append]; rw [List.length_take] at h1; omega)
    have HA := hid hans
    clear hL
    have HO := hid ho
    have hsz : w.heap.size + 1 ≤ wr.heap.size := by have := ho.size; simpa using this
    have hrow : wr.heap[w.heap.size]? = some (.cells #[.int .i64 c.kind, .string c.key, .string c.val, .string c.to, .slice c.gA c.gn c.gc] 33 (0, 0)) :=
      (ho.block w.heap.size (by simp) fun hg => by rcases (HG1.out _).1 hg with h | h <;> omega).trans (by rw [heap_alloc_if, if_pos rfl])
    have b1 : wr.cell? ⟨w.heap.size, 1, none⟩ = some (.string c.key) := by rw [cell_of_row wr _ 1 _ _ _ hrow]; rfl
    have b3 : wr.cell? ⟨w.heap.size, 3, none⟩ = some (.string c.to) := by rw [cell_of_row wr _ 3 _ _ _ hrow]; rfl
    have hszl : w.heap.size < wr.heap.size := by omega
    have HR := hid hrow
    clear hans ho hrow
    by_cases hlt : k < s.pairs.length
    · obtain ⟨b, off, rfl, hB, c0', c1'⟩ := ((HP.out wr HO.out).arr Pair.enc_len).pair hlt
      by_cases t1 : 0 ≤ cmpB s.pairs[k].key c.key
      case neg =>
        have HQ := hid (show inR c.key c.to s.pairs[k] = false by simp [inR, t1])
        go_wp2_with (go_at_call 61; refine (cmp_any _ _ _).mono ?_; rintro e w' ⟨rfl, rfl⟩)
        refine ⟨⟨k + 1, by omega, by go_num, ?_, HO.out.trans (Only.of_below ((Below.refl _ wr).alloc (Nat.le_refl _) _))⟩, by simp [intOf]; omega⟩
        have := HA.out.below ((Below.refl _ wr).alloc (Nat.le_refl _) (.cells #[.string s.pairs[k].key, .string s.pairs[k].val] 53))
        rw [scanned_succ hlt, HQ.out, HL1.out] at *
        simpa [HL1.out] using this
      by_cases t2 : c.to.toList = []
      case pos =>
        have HQ := hid (show inR c.key c.to s.pairs[k] = true by simp [inR, t1, t2])
        go_wp2_with (go_at_call 61; refine (cmp_any _ _ _).mono ?_; rintro e w' ⟨rfl, rfl⟩)
        obtain ⟨RA, rc, HAd, hcd, q1, q2, q3, q4, q5, q6, q7⟩ := HA.out.below ((Below.refl _ wr).alloc (Nat.le_refl _) (.cells #[.string s.pairs[k].key, .string s.pairs[k].val] 53))
        have y3 : (wr.alloc (.cells #[.string s.pairs[k].key, .string s.pairs[k].val] 53)).cell? ⟨q, 3, none⟩ = some (.slice RA L.length rc) := by rw [cell_of_row _ q 3 _ _ _ q1]; rfl
        have hq3 := lt_of_heap q1
        have HQ1 := hid q1
        have HQ2 := hid q2
        have HQ3 := hid q3
        have HQ5 := hid q5
        have HQ6 := hid q6
        have HQ7 := hid q7
        clear q1 q2 q3 q5 q6 q7
        simp only [World.size_alloc] at hq3
        go_region_law (refine step_append_Own (l := L) (m := [s.pairs[k]]) (A := RA) (c := rc) (lo := 0) _ rfl (.tmp 40) (.tmp 42) 22 rfl i0 _ 32 Tryd.underlying22 HI.out HZ0.out HZ1.out HZ2.out rfl (by decide) Pair.enc_len Pair.enc_one (by simp [Act.eval]) (HQ2.out.below (by repeat (first | exact Below.refl _ _ | assumption | refine Below.drew ?_ | refine below_drewN ?_ _ | refine Below.alloc ?_ (by first | omega | (simp; done) | (simp; omega)) _ | refine Below.setCell ?_ (by first | omega | (simp; done) | (simp; omega)) _))) (A2 := some ⟨wr.heap.size + 1, 0, none⟩) 1 (by simp [Act.eval]) (arr_onePair (vb := wr.heap.size + 1) (x := s.pairs[k]) (by rw [show ∀ (x : World), x.drew.heap = x.heap from fun _ => rfl, heap_alloc_if, if_pos (by simp)]; rfl)) (by have := HLL.out; unfold maxLen; simp; omega) (by have := HLL.out; simp; omega) (Nat.zero_le _) ?_; intro A' c' w' hown hgr hloc; have hpp : w'.heap[q]? = _ := (hgr.block q (by simp; omega) fun hr => (HQ2.out.row HQ5.out q hr.symm).2 rfl).trans ((Below.heap_alloc _ _ q (by simp; omega)).trans HQ1.out); have e31 : w'.cell? ⟨q, 3, none⟩ = some (.slice RA L.length rc) := (by rw [cell_of_row w' q 3 _ _ _ hpp]; rfl); have f31 := frozen_of_row w' q 3 _ _ hpp)
        all_goals go_wp2
        all_goals
          refine ⟨⟨k + 1, by omega, by go_num, ?_, HO.out.trans ((Only.of_below ((Below.refl _ wr).alloc (Nat.le_refl _) _)).trans (AnsAt.putPairs HQ1.out HQ2.out HQ3.out q4 HQ5.out HQ6.out HQ7.out (fun j hj => (HG1.out j).2 (.inr (by simp at hj; omega))) (by repeat (first | exact Below.refl _ _ | assumption | refine Below.drew ?_ | refine below_drewN ?_ _ | refine Below.alloc ?_ (by first | omega | (simp; done) | (simp; omega)) _ | refine Below.setCell ?_ (by first | omega | (simp; done) | (simp; omega)) _)) hgr hown hloc (by simp)).2)⟩, by simp [intOf]; omega⟩
          rw [scanned_succ hlt, HQ.out, if_pos rfl, ← List.append_assoc, ← HL1.out]
          exact (AnsAt.putPairs HQ1.out HQ2.out HQ3.out q4 HQ5.out HQ6.out HQ7.out (fun j hj => (HG1.out j).2 (.inr (by simp at hj; omega))) (by repeat (first | exact Below.refl _ _ | assumption | refine Below.drew ?_ | refine below_drewN ?_ _ | refine Below.alloc ?_ (by first | omega | (simp; done) | (simp; omega)) _ | refine Below.setCell ?_ (by first | omega | (simp; done) | (simp; omega)) _)) hgr hown hloc (by simp)).1
      have t3 : c.to.toList.isEmpty = false := by simpa using t2
      by_cases t4 : cmpB s.pairs[k].key c.to < 0
      case neg =>
        have HQ := hid (show inR c.key c.to s.pairs[k] = false by simp [inR, t1, t2, t4])
        have t5 : 0 ≤ cmpB s.pairs[k].key c.to := by omega
        go_wp2_with (go_at_call 61; refine (cmp_any _ _ _).mono ?_; rintro e w' ⟨rfl, rfl⟩)
        refine ⟨⟨k + 1, by omega, by go_num, ?_, HO.out.trans (Only.of_below ((Below.refl _ wr).alloc (Nat.le_refl _) _))⟩, by simp [intOf]; omega⟩
        have := HA.out.below ((Below.refl _ wr).alloc (Nat.le_refl _) (.cells #[.string s.pairs[k].key, .string s.pairs[k].val] 53))
        rw [scanned_succ hlt, HQ.out, HL1.out] at *
        simpa [HL1.out] using this
      case pos =>
        have HQ := hid (show inR c.key c.to s.pairs[k] = true by simp [inR, t1, t4])
        go_wp2_with (go_at_call 61; refine (cmp_any _ _ _).mono ?_; rintro e w' ⟨rfl, rfl⟩)
        obtain ⟨RA, rc, HAd, hcd, q1, q2, q3, q4, q5, q6, q7⟩ := HA.out.below ((Below.refl _ wr).alloc (Nat.le_refl _) (.cells #[.string s.pairs[k].key, .string s.pairs[k].val] 53))
        have y3 : (wr.alloc (.cells #[.string s.pairs[k].key, .string s.pairs[k].val] 53)).cell? ⟨q, 3, none⟩ = some (.slice RA L.length rc) := by rw [cell_of_row _ q 3 _ _ _ q1]; rfl
        have hq3 := lt_of_heap q1
        have HQ1 := hid q1
        have HQ2 := hid q2
        have HQ3 := hid q3
        have HQ5 := hid q5
        have HQ6 := hid q6
        have HQ7 := hid q7
        clear q1 q2 q3 q5 q6 q7
        simp only [World.size_alloc] at hq3
        go_region_law (refine step_append_Own (l := L) (m := [s.pairs[k]]) (A := RA) (c := rc) (lo := 0) _ rfl (.tmp 40) (.tmp 42) 22 rfl i0 _ 32 Tryd.underlying22 HI.out HZ0.out HZ1.out HZ2.out rfl (by decide) Pair.enc_len Pair.enc_one (by simp [Act.eval]) (HQ2.out.below (by repeat (first | exact Below.refl _ _ | assumption | refine Below.drew ?_ | refine below_drewN ?_ _ | refine Below.alloc ?_ (by first | omega | (simp; done) | (simp; omega)) _ | refine Below.setCell ?_ (by first | omega | (simp; done) | (simp; omega)) _))) (A2 := some ⟨wr.heap.size + 1, 0, none⟩) 1 (by simp [Act.eval]) (arr_onePair (vb := wr.heap.size + 1) (x := s.pairs[k]) (by rw [show ∀ (x : World), x.drew.heap = x.heap from fun _ => rfl, heap_alloc_if, if_pos (by simp)]; rfl)) (by have := HLL.out; unfold maxLen; simp; omega) (by have := HLL.out; simp; omega) (Nat.zero_le _) ?_; intro A' c' w' hown hgr hloc; have hpp : w'.heap[q]? = _ := (hgr.block q (by simp; omega) fun hr => (HQ2.out.row HQ5.out q hr.symm).2 rfl).trans ((Below.heap_alloc _ _ q (by simp; omega)).trans HQ1.out); have e31 : w'.cell? ⟨q, 3, none⟩ = some (.slice RA L.length rc) := (by rw [cell_of_row w' q 3 _ _ _ hpp]; rfl); have f31 := frozen_of_row w' q 3 _ _ hpp)
        all_goals go_wp2
        all_goals
          refine ⟨⟨k + 1, by omega, by go_num, ?_, HO.out.trans ((Only.of_below ((Below.refl _ wr).alloc (Nat.le_refl _) _)).trans (AnsAt.putPairs HQ1.out HQ2.out HQ3.out q4 HQ5.out HQ6.out HQ7.out (fun j hj => (HG1.out j).2 (.inr (by simp at hj; omega))) (by repeat (first | exact Below.refl _ _ | assumption | refine Below.drew ?_ | refine below_drewN ?_ _ | refine Below.alloc ?_ (by first | omega | (simp; done) | (simp; omega)) _ | refine Below.setCell ?_ (by first | omega | (simp; done) | (simp; omega)) _)) hgr hown hloc (by simp)).2)⟩, by simp [intOf]; omega⟩
          rw [scanned_succ hlt, HQ.out, if_pos rfl, ← List.append_assoc, ← HL1.out]
          exact (AnsAt.putPairs HQ1.out HQ2.out HQ3.out q4 HQ5.out HQ6.out HQ7.out (fun j hj => (HG1.out j).2 (.inr (by simp at hj; omega))) (by repeat (first | exact Below.refl _ _ | assumption | refine Below.drew ?_ | refine below_drewN ?_ _ | refine Below.alloc ?_ (by first | omega | (simp; done) | (simp; omega)) _ | refine Below.setCell ?_ (by first | omega | (simp; done) | (simp; omega)) _)) hgr hown hloc (by simp)).1
    · go_wp2
      refine bodyPost_ret (v := .tuple #[]) (by simp [results, Tryd.results47]) rfl ?_
      have hkk : s.pairs.take k = s.pairs := List.take_of_length_le (by omega)
      rw [HL1.out, hkk] at HA
      exact ⟨rfl, HEND.out _ _ HA.out HO.out⟩
end Go.Proofs.YtamcehfcjcmpmaaDoor
