/- fuseeref24.Points, fuseeref25.counted. -/
import Derived.Test.YtamcehfcjcmpmaaGreatDoorZsm
namespace Go.Proofs.YtamcehfcjcmpmaaGreatDoor
open Go.RowKit

theorem countK_one (s : Story) : countK [s] = if kindB s.c.kind = true then 1 else 0 := by
  unfold countK
  by_cases h : kindB s.c.kind = true <;> simp [h]
set_option maxHeartbeats 2000000 in
set_option maxRecDepth 100000 in
theorem points24_any (l : List Story) (A : Option Addr) (c : Nat) (w : World) (hA : Arr Story.enc 14 w w.heap.size A l) (hc : l.length ≤ c) (hm : c ≤ 9223372036854775807) (hl : l.length ≤ 100000) :
    Calls Tryz.prog 28 #[.slice A l.length c] w (GivesN (countK l) w) := by
  have HA := hid hA
  have HL := hid hl
  clear hA hl
  go_enter Tryz.func28, Tryz.ntmps28
  go_wp2_with fail
  go_loopw [3, 4] (fun v3 v4 wr => ∃ (k : Nat) (M : List Story) (A' : Option Addr) (c' : Nat), k ≤ l.length ∧ v4 = .int .i64 k ∧ v3 = .slice A' M.length c' ∧ Own Story.enc 52 14 wr w.heap.size A' c' M ∧ M.length = countK (l.take k) ∧ Below w.heap.size w wr) (fun _ v4 _ => l.length - (intOf v4).toNat)
  case atStart => exact ⟨0, [], none, 0, Nat.zero_le _, rfl, rfl, Own.none_, rfl, Below.refl _ _⟩
  case round =>
    obtain ⟨k, M, A', c', hkl, rfl, rfl, hO, hM, hb⟩ := hrel
    have hsz := hb.size
    have HO := hid hO
    have HM := hid hM
    clear hO hM
    by_cases hlt : k < l.length
    · obtain ⟨b, off, hA1, hB, hcells⟩ := (HA.out.below hb).story hlt
      have hbr : b < wr.heap.size := by omega
      have hc1 := hcells.c1
      subst hA1
      go_wp2_with fail
      refine (point24 l[k].c.kind _).mono ?_
      rintro e w1 ⟨rfl, hb1⟩
      have bw1 := hb.trans (hb1.mono hsz)
      obtain ⟨b', off', hA2, -, hcells1⟩ := (HA.out.below bw1).story hlt
      cases hA2
      have hb1' : b < w1.heap.size := Nat.lt_of_lt_of_le hbr hb1.size
      have HO1 := hid (HO.out.below hb1)
      have hsz1 := bw1.size
      have hML : M.length ≤ k := by rw [HM.out]; exact Nat.le_trans (countK_le _) (by rw [List.length_take]; omega)
      have HML := hid hML
      clear hML
      by_cases hk : kindB l[k].c.kind = true
      · have HM1 : Hid (M.length + 1 = countK (l.take (k + 1))) := hid (by rw [countK_succ hlt, if_pos hk, HM.out])
        rw [hk]
        clear hk
        obtain ⟨x, hx⟩ : ∃ x, x = l[k] := ⟨_, rfl⟩
        rw [← hx] at hcells1
        clear hx hc1 hcells
        obtain ⟨c0, c1, c2, c3, c4, c5, c6, c7, c8, c9, c10, c11, c12, c13⟩ := hcells1
        go_wp2_with (at_builtin; refine app_story (l := M) (m := [x]) (A := A') (c := c') (lo := w.heap.size) _ rfl (.tmp 18) (.tmp 23) (by first | rfl | simp [Act.eval]) (by first | rfl | simp [Act.eval]) (HO1.out.alloc _) 1 rfl (arr_oneStory (vb := w1.heap.size) (x := x) (by rw [heap_alloc_if, if_pos (by simp)]; rfl)) (by have := HML.out; have := HL.out; simp; omega) (by simp; omega) ?_; intro A2 c2 w2 hown2 hgr2 hloc2)
        refine ⟨⟨k + 1, M ++ [x], A2, c2, by omega, by go_num, by rw [List.length_append]; rfl, hown2, ?_, ?_⟩, by simp [intOf]; omega⟩
        · rw [List.length_append]; exact HM1.out
        · exact ownBelow (HO1.out.alloc _) hgr2 (show Below w.heap.size w _ from (by repeat (first | exact Below.refl _ _ | assumption | refine Below.drew ?_ | refine below_drewN ?_ _ | refine Below.alloc ?_ (by first | omega | (simp; done) | (simp; omega)) _ | refine Below.setCell ?_ (by first | omega | (simp; done) | (simp; omega)) _))) (by simp; omega)
      · have hk' : kindB l[k].c.kind = false := by simpa using hk
        have HM1 : Hid (M.length = countK (l.take (k + 1))) := hid (by rw [countK_succ hlt, if_neg hk, HM.out]; rfl)
        rw [hk']
        clear hk hk' hcells1
        go_wp2_with fail
        exact ⟨⟨k + 1, M, A', c', by omega, by go_num, rfl, HO1.out, HM1.out, bw1⟩, by simp [intOf]; omega⟩
    · obtain rfl : k = l.length := by omega
      have hML := HM.out
      rw [List.take_length] at hML
      go_wp2
      go_ret
      exact ⟨A', c', by rw [hML]; rfl, hb⟩
set_option maxHeartbeats 2000000 in
set_option maxRecDepth 100000 in
theorem counted_any (l : List Story) (A : Option Addr) (c : Nat) (w : World) (hA : Arr Story.enc 14 w w.heap.size A l) (hc : l.length ≤ c) (hm : c ≤ 9223372036854775807) (hl : l.length ≤ 100000) :
    Calls Tryz.prog 20 #[.slice A l.length c] w fun e w' => ∃ A' c', e = .returned (.slice A' (placesTo l l.length).length c') ∧ Own numE 3 1 w' w.heap.size A' c' (placesTo l l.length) ∧ Below w.heap.size w w' := by
  have HA := hid hA
  have HL := hid hl
  clear hA hl
  go_enter Tryz.func20, Tryz.ntmps20
  go_wp2_with fail
  go_loopw [3, 4] (fun v3 v4 wr => ∃ (k : Nat) (A' : Option Addr) (c' : Nat), k ≤ l.length ∧ v4 = .int .i64 k ∧ v3 = .slice A' (placesTo l k).length c' ∧ Own numE 3 1 wr w.heap.size A' c' (placesTo l k) ∧ Below w.heap.size w wr) (fun _ v4 _ => l.length - (intOf v4).toNat)
  case atStart => exact ⟨0, none, 0, Nat.zero_le _, rfl, rfl, Own.none_, Below.refl _ _⟩
  case round =>
    obtain ⟨k, A', c', hkl, rfl, rfl, hO, hb⟩ := hrel
    have hsz := hb.size
    have HO := hid hO
    clear hO
    by_cases hlt : k < l.length
    · obtain ⟨b, off, hA1, hB, hcells⟩ := (HA.out.below hb).story hlt
      have hbr : b < wr.heap.size := by omega
      subst hA1
      obtain ⟨x, hx⟩ : ∃ x, x = l[k] := ⟨_, rfl⟩
      rw [← hx] at hcells
      have HY : Hid (countsB x = true → placesTo l (k + 1) = placesTo l k ++ [k]) := hid fun h => placesTo_yes hlt (by rw [← hx]; exact h)
      have HN : Hid (¬ countsB x = true → placesTo l (k + 1) = placesTo l k) := hid fun h => placesTo_no hlt (by rw [← hx]; exact h)
      have HX := hid hx
      clear hx
      obtain ⟨c0, c1, c2, c3, c4, c5, c6, c7, c8, c9, c10, c11, c12, c13⟩ := hcells
      go_wp2_with fail
      have hw2 : ∀ o, Below wr.heap.size wr (wr.alloc o) := fun o => (Below.refl _ _).alloc (Nat.le_refl _) _
      refine (points24_any [x] (some ⟨wr.heap.size, 0, none⟩) 1 _ (arr_oneStory (vb := wr.heap.size) (x := x) (by rw [heap_alloc_if, if_pos rfl]; rfl)) (by simp) (by omega) (by simp)).mono ?_
      rintro e w1 ⟨A1, cA1, rfl, hb1⟩
      have st1 : Below wr.heap.size wr w1 := (hw2 _).trans (hb1.mono (by simp))
      have bw1 := hb.trans (st1.mono hsz)
      obtain ⟨b', off', hA2, -, hcells1⟩ := (HA.out.below bw1).story hlt
      cases hA2
      rw [← HX.out] at hcells1
      have e13 := hcells1.c13
      have e6 := hcells1.c6
      have hb1' : b < w1.heap.size := Nat.lt_of_lt_of_le hbr st1.size
      have HO1 := hid (HO.out.below st1)
      have hsz1 := bw1.size
      have hPL : (placesTo l k).length ≤ k := placesTo_le l k
      have HPL := hid hPL
      rw [countK_one]
      clear hb1 c0 c1 c2 c3 c4 c5 c6 c7 c8 c9 c10 c11 c12 c13 hw2 hPL hcells1 HX
      by_cases hk : kindB x.c.kind = true
      · have HK := hid hk
        rw [if_pos hk]
        clear hk
        by_cases hen : x.en < 0
        · have HC : Hid (x.en < 0) := hid hen
          go_wp2_with (at_builtin; refine app_num (l := placesTo l k) (m := [k]) (A := A') (c := c') (lo := w.heap.size) _ rfl (.tmp 38) (.tmp 40) (by first | rfl | simp [Act.eval]) (by first | rfl | simp [Act.eval]) (HO1.out.alloc _) 1 (by first | rfl | simp [Act.eval]) (arr_oneNum (vb := w1.heap.size) (x := k) (by rw [heap_alloc_if, if_pos (by simp)])) (by have := HPL.out; have := HL.out; simp; omega) (by simp; omega) ?_; intro A5 c5 w5 hown5 hgr5 hloc5)
          refine ⟨⟨k + 1, A5, c5, by omega, by go_num, ?_, ?_, ?_⟩, by simp [intOf]; omega⟩
          · rw [HY.out (by unfold countsB; rw [HK.out]; simp [HC.out]), List.length_append]; rfl
          · rw [HY.out (by unfold countsB; rw [HK.out]; simp [HC.out])]; exact hown5
          · exact ownBelow (HO1.out.alloc _) hgr5 (show Below w.heap.size w _ from (by repeat (first | exact Below.refl _ _ | assumption | refine Below.drew ?_ | refine below_drewN ?_ _ | refine Below.alloc ?_ (by first | omega | (simp; done) | (simp; omega)) _ | refine Below.setCell ?_ (by first | omega | (simp; done) | (simp; omega)) _))) (by simp; omega)
        · by_cases hcd : x.code = 0
          · have HC : Hid (x.code = 0) := hid hcd
            rw [hcd] at e6
            clear hcd
            go_wp2_with (at_builtin; refine app_num (l := placesTo l k) (m := [k]) (A := A') (c := c') (lo := w.heap.size) _ rfl (.tmp 38) (.tmp 40) (by first | rfl | simp [Act.eval]) (by first | rfl | simp [Act.eval]) (HO1.out.alloc _) 1 (by first | rfl | simp [Act.eval]) (arr_oneNum (vb := w1.heap.size) (x := k) (by rw [heap_alloc_if, if_pos (by simp)])) (by have := HPL.out; have := HL.out; simp; omega) (by simp; omega) ?_; intro A5 c5 w5 hown5 hgr5 hloc5)
            refine ⟨⟨k + 1, A5, c5, by omega, by go_num, ?_, ?_, ?_⟩, by simp [intOf]; omega⟩
            · rw [HY.out (by unfold countsB; rw [HK.out]; simp [HC.out]), List.length_append]; rfl
            · rw [HY.out (by unfold countsB; rw [HK.out]; simp [HC.out])]; exact hown5
            · exact ownBelow (HO1.out.alloc _) hgr5 (show Below w.heap.size w _ from (by repeat (first | exact Below.refl _ _ | assumption | refine Below.drew ?_ | refine below_drewN ?_ _ | refine Below.alloc ?_ (by first | omega | (simp; done) | (simp; omega)) _ | refine Below.setCell ?_ (by first | omega | (simp; done) | (simp; omega)) _))) (by simp; omega)
          · have HC : Hid (¬ x.en < 0 ∧ ¬ x.code = 0) := hid ⟨hen, hcd⟩
            have hcd' : (x.code == 0) = false := by simpa using hcd
            clear hcd
            go_wp2_with fail
            exact ⟨⟨k + 1, A', c', by omega, by go_num, by rw [HN.out (by unfold countsB; simp [HK.out, HC.out])], by rw [HN.out (by unfold countsB; simp [HK.out, HC.out])]; exact HO1.out, bw1⟩, by simp [intOf]; omega⟩
      · have HK : Hid (¬ kindB x.c.kind = true) := hid hk
        have HC : Hid True := hid trivial
        rw [if_neg hk]
        clear hk
        go_wp2_with fail
        exact ⟨⟨k + 1, A', c', by omega, by go_num, by rw [HN.out (by unfold countsB; simp [HK.out])], by rw [HN.out (by unfold countsB; simp [HK.out])]; exact HO1.out, bw1⟩, by simp [intOf]; omega⟩
    · obtain rfl : k = l.length := by omega
      go_wp2
      go_ret
      exact ⟨A', c', rfl, HO.out, hb⟩
end Go.Proofs.YtamcehfcjcmpmaaGreatDoor
