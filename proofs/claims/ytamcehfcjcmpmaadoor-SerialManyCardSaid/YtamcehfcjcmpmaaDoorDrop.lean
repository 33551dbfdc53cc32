/- ideal.drop, and the doing of a delete. -/
import Derived.Test.YtamcehfcjcmpmaaDoorIdl9
import Derived.Test.YtamcehfcjcmpmaaDoorDel
namespace Go.Proofs.YtamcehfcjcmpmaaDoor
open Go.RowKit

def GivesDrop (F : Nat → Prop) (p : Nat) (s : Shelf) (key : ByteArray) (w : World) (e : Ending) (w' : World) : Prop :=
  e = .returned (.bool (hasK s.pairs key)) ∧ Store F w' p ⟨dropK key s.pairs, s.queue⟩ ∧ Only F w w'
theorem dropK_len {key : ByteArray} {l : List Pair} : decide (((dropK key l).length : Int) < (l.length : Int)) = hasK l key := by
  unfold hasK dropK
  rw [decide_eq_decide]
  constructor
  · intro h
    refine Decidable.byContradiction fun hc => ?_
    have : l.filter (fun p => !eqK key p) = l := by
      rw [List.filter_eq_self]
      intro a ha
      cases hq : eqK key a with
      | false => rfl
      | true => exact absurd (List.findIdx_lt_length_of_exists ⟨a, ha, hq⟩) hc
    rw [this] at h
    omega
  · intro h
    have h1 := List.findIdx_getElem (w := h)
    have : (l.filter (fun p => !eqK key p)).length < l.length := by
      rw [List.length_filter_lt_length_iff_exists]
      exact ⟨_, List.getElem_mem h, by simp [h1]⟩
    omega
set_option maxHeartbeats 2000000 in
theorem drop_any (F : Nat → Prop) (p : Nat) (s : Shelf) (key : ByteArray) (w : World) (h : Store F w p s) (hF : ∀ j, w.heap.size ≤ j → F j) :
    Calls Tryd.prog 43 #[.pointer (some ⟨p, 0, none⟩), .string key] w (GivesDrop F p s key w) := by
  obtain ⟨PA, pc, QA, qc, h1, h2, h3, h4, h5⟩ := h
  have hp := lt_of_heap h1
  have c0 : w.cell? ⟨p, 0, none⟩ = some (.slice PA s.pairs.length pc) := by rw [cell_of_row w p 0 _ _ _ h1]; rfl
  have hb0 : Below w.heap.size w (w.alloc (.cells #[.string key] 9)) := (Below.refl _ w).alloc (Nat.le_refl _) _
  have HO := hid (h2.pairs.below hb0)
  have hlen := h2.pairs.len
  have hmax := h2.pairs.max
  have hpr1 : (w.alloc (.cells #[.string key] 9)).heap[p]? = some (.cells #[.slice PA s.pairs.length pc, .slice QA s.queue.length qc] 25 (0, 0)) := (hb0.block p hp).trans h1
  have HPR := hid hpr1
  have H2 := hid (show ShOwn (w.alloc (.cells #[.string key] 9)) 0 PA pc QA qc s from ⟨h2.pairs.below hb0, h2.queue.below hb0, h2.apart⟩)
  have H4 := hid h4
  have H5 := hid h5
  have HFr := hid hF
  have HB := hid hb0
  have hne : pc = 0 ∨ ∀ b off, PA = some ⟨b, off, none⟩ → w.heap.size ≠ b := by
    rcases h2.pairs.lt with h0 | ⟨b, off, hA, _, hlt⟩
    · exact .inl h0
    · exact .inr fun b' o' hA' => by rw [hA] at hA'; cases hA'; omega
  have HN := hid hne
  clear h1 h2 h4 h5 hF hb0 hpr1 hne
  go_enter Tryd.func43, Tryd.ntmps43
  go_wp2_with fail
  refine (del_any s.pairs PA pc 0 w.heap.size key _ HO.out (by simp) (by simp [go_sem]) HN.out).mono ?_
  rintro e w1 ⟨rfl, hown, hgr⟩
  have hp1 : w1.heap[p]? = some (.cells #[.slice PA s.pairs.length pc, .slice QA s.queue.length qc] 25 (0, 0)) := (hgr.block p (by simp; omega) fun hr => (HO.out.row H4.out p hr.symm).2 rfl).trans HPR.out
  have e10 : w1.cell? ⟨p, 0, none⟩ = some (.slice PA s.pairs.length pc) := by rw [cell_of_row w1 p 0 _ _ _ hp1]; rfl
  have f10 := frozen_of_row w1 p 0 _ _ hp1
  have HW := hid hown
  have HG := hid hgr
  clear hown hgr hp1
  go_wp2
  go_ret
  obtain ⟨r1, r2⟩ := Store.putPairs HPR.out H2.out h3 H4.out H5.out (fun j hj => HFr.out j (by simp at hj; omega)) (Below.refl _ _) HG.out HW.out (.inl ⟨rfl, rfl⟩) rfl
  exact ⟨ret_bool (by rw [← dropK_len]; simp only [Int.ofNat_lt]), r1, (Only.of_below HB.out).trans r2⟩
set_option maxHeartbeats 2000000 in
theorem do_del (K : Nat → Prop) (p q : Nat) (s : Shelf) (a : Ans) (c : Call0) (w : World) (h : SA K w p q s a) (hK : ∀ j, w.heap.size ≤ j → K j) :
    Calls Tryd.prog 42 #[.pointer (some ⟨p, 0, none⟩), .agg #[.int .i64 c.kind, .string c.key, .string c.val, .string c.to, .slice c.gA c.gn c.gc], .pointer (some ⟨q, 0, none⟩)] w
      (GivesDo K p q ⟨dropK c.key s.pairs, s.queue⟩ { a with found := hasK s.pairs c.key } w) := by
  have hb0 : Below w.heap.size w (w.alloc (.cells #[.int .i64 c.kind, .string c.key, .string c.val, .string c.to, .slice c.gA c.gn c.gc] 33)) := (Below.refl _ w).alloc (Nat.le_refl _) _
  obtain ⟨F, hS, hF, hST⟩ := (h.below hb0).part (fun j hj => hK j (by simp at hj; omega))
  have HS := hid hS
  have HFr := hid hF
  have HST := hid hST
  have HB := hid (Only.of_below (F := K) hb0)
  clear h hK hS hF hST hb0
  go_enter Tryd.func42, Tryd.ntmps42
  go_wp2_with fail
  refine (drop_any _ p s c.key _ HS.out HFr.out).mono ?_
  rintro e w1 ⟨rfl, hs1, ho1⟩
  obtain ⟨hsa, hon⟩ := HST.out w1 _ hs1 ho1
  obtain ⟨RA, rc, HA, hc, hq⟩ := hsa.row
  have eq1 : w1.cell? ⟨q, 1, none⟩ = some (.bool a.found) := by rw [cell_of_row w1 q 1 _ _ _ hq]; rfl
  have fq1 := frozen_of_row w1 q 1 _ _ hq
  have HQ := hid hsa
  have HO := hid hon
  clear hs1 ho1 hsa hon hq
  go_wp2
  refine bodyPost_ret (v := .tuple #[]) (by simp [results, Tryd.results42]) rfl ?_
  obtain ⟨r1, r2⟩ := HQ.out.setFound (hasK s.pairs c.key)
  exact ⟨rfl, r1, (HB.out.trans HO.out).trans r2⟩
end Go.Proofs.YtamcehfcjcmpmaaDoor
