/- fuseelaw0.OverShelf: what was answered is written over. -/
import Derived.Test.YthpegmeebhkhbaaIdl11
import Derived.Test.YthpegmeebhkhbaaDel
namespace Go.Proofs.Ythpegmeebhkhbaa
open Go.RowKit

/-- a thing of one cell set anew -/
theorem Own.set1 {α : Type} {enc : α → List Value} {e : TypeId} (hk : ∀ x, (enc x).length = 1) {w : World} {lo : Nat} {b off c : Nat} {l : List α} (h : Own enc e 1 w lo (some ⟨b, off, none⟩) c l) {i : Nat} (hi : i < l.length) (x : α) (u0 : Value) (hu0 : enc x = [u0]) :
    Own enc e 1 (w.setCell ⟨b, off + i, none⟩ u0) lo (some ⟨b, off, none⟩) c (l.set i x) := by
  obtain ⟨h1, h2, h3⟩ := h
  rcases h3 with h3 | ⟨b', off', cur, hA, hlo, hh, hs, hc⟩
  · omega
  cases hA
  refine ⟨by rw [List.length_set]; exact h1, h2, .inr ⟨b, off, cur.setIfInBounds (off + i) u0, rfl, hlo, heap_setCell_same w b (off + i) cur _ u0 hh, by simpa using hs, ?_⟩⟩
  intro j u hu
  have hlt := (List.getElem?_eq_some_iff.1 hu).1
  rw [flat_length hk, List.length_set] at hlt
  have hq : j < l.length := by omega
  have hu2 := hu
  rw [show j = j * 1 + 0 by omega, flat_get hk _ j (by rw [List.length_set]; exact hq) 0 (by omega), List.getElem_set] at hu2
  have hold := fun u' => hc (j * 1 + 0) u'
  rw [flat_get hk l j hq 0 (by omega)] at hold
  by_cases hji : i = j
  · subst hji
    rw [if_pos rfl, hu0] at hu2
    simp only [List.getElem?_cons_zero, Option.some.injEq] at hu2
    subst hu2
    rw [Array.getElem?_setIfInBounds_self_of_lt (by omega)]
  · rw [if_neg hji] at hu2
    rw [Array.getElem?_setIfInBounds_ne (by omega)]
    exact (by rw [Nat.mul_one, Nat.add_zero] at hold; exact hold u hu2)
def GivesOver (lo : Nat) (w : World) (e : Ending) (w' : World) : Prop := e = .returned (.tuple #[]) ∧ Below lo w w'
def strOver : ByteArray := ⟨#[111, 118, 101, 114]⟩
set_option maxHeartbeats 4000000 in
set_option maxRecDepth 100000 in
theorem overShelf_any (s : Shelf) (lo : Nat) (PA : Option Addr) (pc : Nat) (QA : Option Addr) (qc : Nat) (w : World) (h : ShOwn w lo PA pc QA qc s) (hlo : lo ≤ w.heap.size) :
    Calls Try.prog 48 #[.agg #[.slice PA s.pairs.length pc, .slice QA s.queue.length qc]] w (GivesOver lo w) := by
  have H := hid h
  have hplen := h.pairs.len
  have hpmax := h.pairs.max
  have hqlen := h.queue.len
  have hqmax := h.queue.max
  have HW0 := hid (show (w.alloc (.cells #[.slice PA s.pairs.length pc, .slice QA s.queue.length qc] 41)).heap[w.heap.size]? = some (.cells #[.slice PA s.pairs.length pc, .slice QA s.queue.length qc] 41 (0, 0)) by rw [heap_alloc_if, if_pos rfl])
  clear h
  go_enter Try.func48, Try.ntmps48
  go_wp2_with fail
  go_loopw [2] (fun i wr => ∃ (k : Nat) (L : List Pair), k ≤ s.pairs.length ∧ i = .int .i64 k ∧ L.length = s.pairs.length ∧ Own Pair.enc 81 2 wr lo PA pc L ∧ Own txt 9 1 wr lo QA qc s.queue ∧ Below lo w wr ∧ w.heap.size < wr.heap.size ∧
      wr.heap[w.heap.size]? = some (.cells #[.slice PA s.pairs.length pc, .slice QA s.queue.length qc] 41 (0, 0))) (fun i _ => s.pairs.length - (intOf i).toNat)
  case atStart => exact ⟨0, s.pairs, Nat.zero_le _, rfl, rfl, H.out.pairs.alloc _, H.out.queue.alloc _, (Below.refl _ w).alloc hlo _, by simp, HW0.out⟩
  case round =>
    obtain ⟨k, L, hkl, rfl, hL, hP, hQ, hb, hsz, hrow⟩ := hrel
    have HP := hid hP
    have HQ := hid hQ
    have HL := hid hL
    have HB := hid hb
    have HR := hid hrow
    have c0 : wr.cell? ⟨w.heap.size, 0, none⟩ = some (.slice PA s.pairs.length pc) := by rw [cell_of_row wr _ 0 _ _ _ hrow]; rfl
    have c1 : wr.cell? ⟨w.heap.size, 1, none⟩ = some (.slice QA s.queue.length qc) := by rw [cell_of_row wr _ 1 _ _ _ hrow]; rfl
    clear hP hQ hL hb hrow
    by_cases hlt : k < s.pairs.length
    · obtain ⟨b, off, rfl, hlb, hbw⟩ : ∃ b off, PA = some ⟨b, off, none⟩ ∧ lo ≤ b ∧ b < w.heap.size := by
        rcases H.out.pairs.lt with h0 | h0
        · omega
        · exact h0
      have f0 := HP.out.frozen rfl (by omega) (off + k * 2)
      have f1 := HP.out.frozen rfl (by omega) (off + k * 2 + 1)
      obtain ⟨b', off', hA, hB, d0, d1⟩ := (HP.out.arr Pair.enc_len).pair (i := k) (by have := HL.out; omega)
      cases hA
      have hne : ¬ w.heap.size = b := by omega
      go_wp2_with fail
      refine ⟨⟨k + 1, L.set k ⟨strOver, ByteArray.empty⟩, by omega, by go_num, by rw [List.length_set]; exact HL.out, HP.out.setPair (by have := HL.out; omega) ⟨strOver, ByteArray.empty⟩, ?_, (HB.out.setCell hlb _).setCell hlb _, by simp; omega, ?_⟩, by simp [intOf]; omega⟩
      · refine HQ.out.keep2 ?_
        by_cases h0 : qc = 0
        · exact .inl h0
        · refine .inr fun b2 o2 hA2 _ => ?_
          have hap : b2 ≠ b := by
            rcases H.out.apart b off b2 o2 rfl hA2 with h | h | h
            · omega
            · exact absurd h h0
            · exact fun e => h e.symm
          rw [Below.heap_setCell _ _ _ _ hap, Below.heap_setCell _ _ _ _ hap]
      · rw [Below.heap_setCell _ _ _ _ hne, Below.heap_setCell _ _ _ _ hne]
        exact HR.out
    · go_wp2_with fail
      clear hlt hkl
      obtain ⟨wo, rfl⟩ : ∃ wo : World, wo = wr := ⟨_, rfl⟩
      go_loopw [3] (fun i wr => ∃ (k : Nat) (L : List ByteArray), k ≤ s.queue.length ∧ i = .int .i64 k ∧ L.length = s.queue.length ∧ Own txt 9 1 wr lo QA qc L ∧ Below lo w wr ∧ w.heap.size < wr.heap.size ∧
          wr.heap[w.heap.size]? = some (.cells #[.slice PA s.pairs.length pc, .slice QA s.queue.length qc] 41 (0, 0))) (fun i _ => s.queue.length - (intOf i).toNat)
      case atStart => exact ⟨0, s.queue, Nat.zero_le _, rfl, rfl, HQ.out, HB.out, hsz, HR.out⟩
      case round =>
        clear c0 c1 hsz
        obtain ⟨k, L, hkl, rfl, hL, hQ, hb, hsz, hrow⟩ := hrel
        have HQ := hid hQ
        have HL := hid hL
        have HB := hid hb
        have HR := hid hrow
        have c1 : wr.cell? ⟨w.heap.size, 1, none⟩ = some (.slice QA s.queue.length qc) := by rw [cell_of_row wr _ 1 _ _ _ hrow]; rfl
        clear hQ hL hb hrow
        by_cases hlt : k < s.queue.length
        · obtain ⟨b, off, rfl, hlb, hbw⟩ : ∃ b off, QA = some ⟨b, off, none⟩ ∧ lo ≤ b ∧ b < w.heap.size := by
            rcases H.out.queue.lt with h0 | h0
            · omega
            · exact h0
          have f0 := HQ.out.frozen rfl (by omega) (off + k)
          obtain ⟨b', off', hA, hB, d0⟩ := (HQ.out.arr txt_len).txt1 (i := k) (by have := HL.out; omega)
          cases hA
          have hne : ¬ w.heap.size = b := by omega
          go_wp2_with fail
          refine ⟨⟨k + 1, L.set k strOver, by omega, by go_num, by rw [List.length_set]; exact HL.out, HQ.out.set1 txt_len (by have := HL.out; omega) strOver _ rfl, HB.out.setCell hlb _, by simp; omega, ?_⟩, by simp [intOf]; omega⟩
          rw [Below.heap_setCell _ _ _ _ hne]
          exact HR.out
        · go_wp2
          refine bodyPost_ret (v := .tuple #[]) (by simp [results, Try.results48]) rfl ⟨rfl, HB.out⟩
end Go.Proofs.Ythpegmeebhkhbaa
