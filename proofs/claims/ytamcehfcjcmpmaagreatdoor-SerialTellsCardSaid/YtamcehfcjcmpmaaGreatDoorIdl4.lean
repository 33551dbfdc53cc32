/- The reference's Good; the statement IdealGood's own parts: Num, large. -/
import Derived.Test.YtamcehfcjcmpmaaGreatDoorIdl3
namespace Go.Proofs.YtamcehfcjcmpmaaGreatDoor
open Go.RowKit

set_option maxHeartbeats 1000000 in
theorem reflong_flat (c : Call0) (h7 : c.kind ≠ 7) (w : World) : Calls Tryz.prog 53 #[.agg #[.int .i64 c.kind, .string c.key, .string c.val, .string c.to, .slice c.gA c.gn c.gc]] w fun e w' => e = .returned (.bool (flatLong c)) ∧ Below w.heap.size w w' := by
  obtain ⟨k, key, val, to, gA, gn, gc⟩ := c
  simp only at h7 ⊢
  go_enter Tryz.func53, Tryz.ntmps53
  go_wp2
  all_goals (go_ret; exact ⟨ret_bool (by simp_all [flatLong]), (by repeat (first | exact Below.refl _ _ | assumption | refine Below.drew ?_ | refine below_drewN ?_ _ | refine Below.alloc ?_ (by first | omega | (simp; done) | (simp; omega)) _ | refine Below.setCell ?_ (by first | omega | (simp; done) | (simp; omega)) _))⟩)
set_option maxHeartbeats 2000000 in
theorem reflong_group (g : List Call0) (A : Option Addr) (gc : Nat) (key val to : ByteArray) (w : World) (hA : Arr Call0.enc 5 w w.heap.size A g) (hc : g.length ≤ gc) (hm : gc ≤ 9223372036854775807) (hf : ∀ x ∈ g, x.kind ≠ 7) :
    Calls Tryz.prog 53 #[.agg #[.int .i64 7, .string key, .string val, .string to, .slice A g.length gc]] w fun e w' => e = .returned (.bool (g.any flatLong)) ∧ Below w.heap.size w w' := by
  have HF := hid hf
  clear hf
  go_enter Tryz.func53, Tryz.ntmps53
  go_wp2
  go_loopw [3] (fun i wr => ∃ k : Nat, k ≤ g.length ∧ i = .int .i64 k ∧ Below (w.heap.size + 1) (w.alloc (.cells #[.int .i64 7, .string key, .string val, .string to, .slice A g.length gc] 46)) wr ∧ NoneTo flatLong g k) (fun i _ => g.length - (intOf i).toNat)
  case atStart => exact ⟨0, Nat.zero_le _, rfl, Below.refl _ _, NoneTo.zero _ _⟩
  case round =>
    obtain ⟨k, hk, rfl, hb, hn⟩ := hrel
    have hbw : Below w.heap.size w wr := ((Below.refl _ w).alloc (Nat.le_refl _) _).trans (hb.mono (by simp))
    have hbs := new_size hb
    have e4 : wr.cell? ⟨w.heap.size, 4, none⟩ = some (.slice A g.length gc) := new_cell hb 4
    by_cases hlt : k < g.length
    · obtain ⟨b, off, rfl, hB, c0, c1, c2, c3, c4⟩ := (hA.below hbw).call0 hlt
      have h7 : g[k].kind ≠ 7 := HF.out _ (List.getElem_mem hlt)
      have H7 := hid h7
      clear h7
      cases hl : flatLong g[k] with
      | true =>
        go_wp2_with (go_at_call 53; refine (reflong_flat g[k] H7.out _).mono ?_; rintro e w' ⟨rfl, hb4⟩; rw [hl])
        go_ret
        exact ⟨ret_bool (any_yes hlt hl).symm, hbw.trans (hb4.mono (by omega))⟩
      | false =>
        go_wp2_with (go_at_call 53; refine (reflong_flat g[k] H7.out _).mono ?_; rintro e w' ⟨rfl, hb4⟩; rw [hl])
        go_roundw
        case rel => exact ⟨k + 1, by omega, by go_num, hb.trans (hb4.mono (by omega)), hn.succ hlt hl⟩
        case measure => simp [intOf]; omega
    · go_wp2
      go_ret
      exact ⟨ret_bool (any_no (by omega) hn).symm, hbw⟩
theorem reflong_any (c : Call0) (g : List Call0) (w : World) (h : CallIn w w.heap.size c g) (hf : c.kind = 7 → ∀ x ∈ g, x.kind ≠ 7) :
    Calls Tryz.prog 53 #[.agg #[.int .i64 c.kind, .string c.key, .string c.val, .string c.to, .slice c.gA c.gn c.gc]] w fun e w' => e = .returned (.bool (longB c g)) ∧ Below w.heap.size w w' := by
  by_cases h7 : c.kind = 7
  · have e : longB c g = g.any flatLong := by simp [longB, h7]
    obtain ⟨hA, hn, hc, hm⟩ := h
    have hf2 := hf h7
    obtain ⟨k, key, val, to, gA, gn, gc⟩ := c
    simp only at h7 hA hn hc hm ⊢
    subst h7
    subst hn
    rw [e]
    exact reflong_group g gA gc key val to w hA hc hm hf2
  · have e : longB c g = flatLong c := by simp [longB, h7]
    rw [e]
    exact reflong_flat c h7 w
set_option maxHeartbeats 1000000 in
theorem refgood_any (c : Call0) (g : List Call0) (w : World) (h : CallIn w w.heap.size c g) :
    Calls Tryz.prog 39 #[.agg #[.int .i64 c.kind, .string c.key, .string c.val, .string c.to, .slice c.gA c.gn c.gc]] w fun e w' => e = .returned (.int .i64 (goodI c g)) ∧ Below w.heap.size w w' := by
  have h1 : CallIn (w.alloc (.cells #[.int .i64 c.kind, .string c.key, .string c.val, .string c.to, .slice c.gA c.gn c.gc] 46)) (w.heap.size + 1) c g := (h.below ((Below.refl _ w).alloc (Nat.le_refl _) _)).more (by omega)
  cases hs : shapeB c g with
  | false =>
    have e : goodI c g = 1 := by simp [goodI, hs]
    rw [e]
    have H1 := hid h1
    clear h1 h e
    go_enter Tryz.func39, Tryz.ntmps39
    go_wp2_with (go_at_call 52; refine (refshape_any c g _ (H1.out.more (by simp))).mono ?_; rintro e w' ⟨rfl, hb⟩; rw [hs])
    go_ret
    exact ⟨rfl, ((Below.refl _ w).alloc (Nat.le_refl _) _).trans (hb.mono (by simp))⟩
  | true =>
    have hf : c.kind = 7 → ∀ x ∈ g, x.kind ≠ 7 := fun h7 x hx => grouped_not7 (shape_flat hs h7 x hx)
    have HF := hid hf
    have H1 := hid h1
    clear h1 h hf
    have e : goodI c g = if longB c g = true then 5 else 0 := by simp [goodI, hs]
    rw [e]
    clear e
    cases hl : longB c g with
    | true =>
      go_enter Tryz.func39, Tryz.ntmps39
      go_wp2_with (go_at_call 52; refine (refshape_any c g _ (H1.out.more (by simp))).mono ?_; rintro e w' ⟨rfl, hb⟩; rw [hs]; have c0 := hb.cell (p := ⟨w.heap.size, 0, none⟩) (by simp); have c1 := hb.cell (p := ⟨w.heap.size, 1, none⟩) (by simp); have c2 := hb.cell (p := ⟨w.heap.size, 2, none⟩) (by simp); have c3 := hb.cell (p := ⟨w.heap.size, 3, none⟩) (by simp); have c4 := hb.cell (p := ⟨w.heap.size, 4, none⟩) (by simp))
      have hb' := hb.mono (show w.heap.size + 1 ≤ _ by simp)
      have hz := new_size hb'
      have H2 := (H1.out.below hb').more (show w.heap.size + 1 ≤ _ by exact hz)
      refine (reflong_any c g _ H2 HF.out).mono ?_
      rintro e w2 ⟨rfl, hb2⟩
      rw [hl]
      clear H2
      go_wp2
      go_ret
      exact ⟨rfl, (((Below.refl _ w).alloc (Nat.le_refl _) _).trans (hb'.mono (by omega))).trans (hb2.mono (by omega))⟩
    | false =>
      go_enter Tryz.func39, Tryz.ntmps39
      go_wp2_with (go_at_call 52; refine (refshape_any c g _ (H1.out.more (by simp))).mono ?_; rintro e w' ⟨rfl, hb⟩; rw [hs]; have c0 := hb.cell (p := ⟨w.heap.size, 0, none⟩) (by simp); have c1 := hb.cell (p := ⟨w.heap.size, 1, none⟩) (by simp); have c2 := hb.cell (p := ⟨w.heap.size, 2, none⟩) (by simp); have c3 := hb.cell (p := ⟨w.heap.size, 3, none⟩) (by simp); have c4 := hb.cell (p := ⟨w.heap.size, 4, none⟩) (by simp))
      have hb' := hb.mono (show w.heap.size + 1 ≤ _ by simp)
      have hz := new_size hb'
      have H2 := (H1.out.below hb').more (show w.heap.size + 1 ≤ _ by exact hz)
      refine (reflong_any c g _ H2 HF.out).mono ?_
      rintro e w2 ⟨rfl, hb2⟩
      rw [hl]
      clear H2
      go_wp2
      go_ret
      exact ⟨rfl, (((Below.refl _ w).alloc (Nat.le_refl _) _).trans (hb'.mono (by omega))).trans (hb2.mono (by omega))⟩
theorem num_any (n : Int) (w : World) : Calls Tryz.prog 11 #[.int .i64 n] w fun e w' => e = .returned (.int .i64 n) ∧ w = w' := by
  go_enter Tryz.func11, Tryz.ntmps11
  go_wp2
  go_ret
  exact ⟨rfl, rfl⟩
end Go.Proofs.YtamcehfcjcmpmaaGreatDoor
