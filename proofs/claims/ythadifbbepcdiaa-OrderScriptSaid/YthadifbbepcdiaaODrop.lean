/- A key dropped from an order. -/
import Derived.Test.YthadifbbepcdiaaOOrd
namespace Go.Proofs.Ythadifbbepcdiaa
open Go.RowKit

/-- the levels when the first k of them have been looked through -/
def lvD (L : List Link) (key : ByteArray) (k : Nat) : Nat → List Link := fun j => if j < k then dropL (atLv L j) key else atLv L j
theorem lvD_at (L : List Link) (key : ByteArray) (k : Nat) : lvD L key k k = atLv L k := by simp [lvD]
theorem lvD_succ (L : List Link) (key : ByteArray) (k : Nat) (j : Nat) : upd (lvD L key k) k (dropL (atLv L k) key) j = lvD L key (k + 1) j := by
  unfold upd lvD
  by_cases h : j = k
  · subst h; simp
  · rw [if_neg h]
    by_cases h2 : j < k
    · rw [if_pos h2, if_pos (by omega)]
    · rw [if_neg h2, if_neg (by omega)]
theorem lvD_same {L : List Link} {key : ByteArray} {k : Nat} (h : hasL (atLv L k) key = false) (j : Nat) : lvD L key k j = lvD L key (k + 1) j := by
  rw [← lvD_succ, upd]
  split
  · rename_i e
    rw [e, lvD_at, dropL_none h]
  · rfl
theorem lvD_end (L : List Link) (key : ByteArray) (j : Nat) : lvD L key (lvlOf key) j = atLv (dropL L key) j := by
  unfold lvD
  split
  · rw [lv_drop]
  · rw [lv_drop_none (by assumption)]
theorem drop_nil (key : ByteArray) (w : World) : Calls Try.prog 16 #[.pointer none, .string key] w fun e w' => e = .returned (.bool false) ∧ Below w.heap.size w w' := by
  go_enter Try.func16, Try.ntmps16
  go_wp2
  go_ret
  exact ⟨rfl, (by repeat (first | exact Below.refl _ _ | assumption | refine Below.drew ?_ | refine below_drewN ?_ _ | refine Below.alloc ?_ (by first | omega | (simp; done) | (simp; omega)) _ | refine Below.setCell ?_ (by first | omega | (simp; done) | (simp; omega)) _))⟩
set_option maxHeartbeats 8000000 in
set_option maxRecDepth 100000 in
theorem drop_any {F : Nat → Prop} {L : List Link} {ob : Nat} (key : ByteArray) (w : World) (h : Ord F w ob (atLv L)) (hF : ∀ j, w.heap.size ≤ j → F j) (hr : Rise L) (hlen : L.length ≤ 1000) (hkey : key.size ≤ 1000000) :
    Calls Try.prog 16 #[.pointer (some ⟨ob, 0, none⟩), .string key] w fun e w' => e = .returned (.bool (hasL L key)) ∧ Ord F w' ob (atLv (dropL L key)) ∧ Only F w w' := by
  have hob := h.lt
  have HO := hid h
  have HR := hid hr
  have HFr := hid hF
  obtain ⟨n, hn⟩ : ∃ n, n = lvlOf key := ⟨_, rfl⟩
  have hn4 := lvlOf_pos key
  rw [← hn] at hn4
  have hlev : ∀ w, Calls Try.prog 23 #[.string key] w fun e w' => e = .returned (.int .i64 (n : Nat)) ∧ w = w' := fun w => by rw [hn]; exact level_any key hkey w
  have HN := hid hn
  have hn1 := hn4.1
  have hn2 := hn4.2
  clear h hr hF hn hn4 hkey
  go_enter Try.func16, Try.ntmps16
  go_wp2_with (go_at_call 23; refine (hlev _).mono ?_; rintro e w' ⟨rfl, rfl⟩)
  have HO0 : Hid (Ord F w ob (lvD L key 0)) := hid (HO.out.congr fun j _ => by simp [lvD])
  go_loopw [5, 13] (fun v5 v13 wr => ∃ k : Nat, k ≤ n ∧ v13 = .int .i64 k ∧ v5 = .bool (decide (0 < k) && hasL L key) ∧ Ord F wr ob (lvD L key k) ∧ Only F w wr) (fun _ v13 _ => n - (intOf v13).toNat)
  case atStart => exact ⟨0, Nat.zero_le _, rfl, by simp, HO0.out, Only.refl _ _⟩
  case round =>
    obtain ⟨k, hkn, rfl, rfl, hord, honly⟩ := hrel
    by_cases hlt : k < n
    · obtain ⟨hFob, A, c, hin⟩ := hord
      have c0 := hin.cell k (by omega)
      have HIN := hid hin
      have HON := hid honly
      have hobr := hin.lt
      have hsz := honly.size
      rw [lvD_at] at c0
      have hown := hin.own k (by omega)
      rw [lvD_at] at hown
      have HOW := hid hown
      have hln := hown.len
      have hmx := hown.max
      have hk4 : (k : Int) < 4 := by omega
      have hll : (atLv L k).length ≤ 100000 := by have := lv_len L k; omega
      clear hin honly hown
      go_wp2_with fail
      refine (find_any (atLv L k) (rise_lv HR.out k) _ _ key _ (((HOW.out.arr Link.enc_len).below (by repeat (first | exact Below.refl _ _ | assumption | refine Below.drew ?_ | refine below_drewN ?_ _ | refine Below.alloc ?_ (by first | omega | (simp; done) | (simp; omega)) _ | refine Below.setCell ?_ (by first | omega | (simp; done) | (simp; omega)) _))).more (by first | omega | (simp; done) | (simp; omega))) hln hmx hll).mono ?_
      rintro e w1 ⟨rfl, hb1⟩
      all_goals
        have bw1 : Below wr.heap.size wr w1 := Below.trans (by repeat (first | exact Below.refl _ _ | assumption | refine Below.drew ?_ | refine below_drewN ?_ _ | refine Below.alloc ?_ (by first | omega | (simp; done) | (simp; omega)) _ | refine Below.setCell ?_ (by first | omega | (simp; done) | (simp; omega)) _)) (hb1.mono (by first | omega | (simp; done) | (simp; omega)))
        have hz1 := bw1.size
        have c1 := (bw1.cell (p := ⟨ob, k, none⟩) hobr).trans c0
        have HIN1 := hid (HIN.out.below bw1)
        have HOW1 := hid (HOW.out.below bw1)
        have hob1 : ob < w1.heap.size := by omega
        have hkey : hasL (atLv L k) key = hasL L key := has_lv (by rw [← HN.out]; exact hlt)
        have HKEY := hid hkey
        clear hkey c0 hb1
        obtain ⟨p, hp⟩ : ∃ p, p = posL (atLv L k) key := ⟨_, rfl⟩
        rw [← hp]
        have HP := hid hp
        clear hp
        cases hh : hasL (atLv L k) key with
        | true =>
          have HH := hid hh
          have HS := dropL_has (rise_lv HR.out k) hh
          rw [← HP.out] at HS
          have hpl := HS.1
          have HST := hid HS.2
          have HL4 := hid (HIN1.out.lies k (by omega))
          have q1' := HIN1.out.frz k
          clear HS hh
          obtain ⟨b, off, hA, _, hbw⟩ : ∃ b off, A k = some ⟨b, off, none⟩ ∧ 0 ≤ b ∧ b < w1.heap.size := by
            rcases HOW1.out.lt with h0 | h0
            · omega
            · exact h0
          obtain ⟨m, hm⟩ : ∃ m, (atLv L k).length = m + 1 := ⟨(atLv L k).length - 1, by omega⟩
          have HM := hid hm
          have hpm : p ≤ m := by omega
          have hpl2 : (dropL (atLv L k) key).length = m := by rw [HST.out, List.length_append, List.length_take, List.length_drop]; omega
          have HPL2 := hid hpl2
          rw [hA, hm] at c1
          have hOA := HOW1.out
          have hrow : rowOf (A k) (c k) = some b := by rw [hA, rowOf, if_neg (by omega)]; rfl
          rw [hA] at hOA
          have HOA := hid hOA
          have HROW := hid hrow
          have hw1 : IntKind.i64.wrap ((p : Int) + 1) = (p : Int) + 1 := by rw [IntKind.wrap_i64]; omega
          clear hOA hm hpl2 hrow
          go_wp2_with fail
          go_region_with (go_at_call 27; refine (del_link (atLv L k) m b off (c k) 0 p _ (by exact HOA.out) HM.out hpm).mono ?_; rintro e w3 ⟨rfl, hown, hgr⟩; have hb3 : w3.heap[ob]? = w1.heap[ob]? := (hgr.block ob (by first | exact hob1 | (simp; omega)) fun hr => ((HOW1.out.row HL4.out ob (by rw [hA]; exact hr.symm)).2 rfl)); have q0 := (cell_same_block (p := ⟨ob, k, none⟩) hb3).trans c1; have q1 := (frozen_same_block (p := ⟨ob, k, none⟩) hb3).trans q1')
          all_goals
            go_wp2_with fail
            go_roundw
            case rel =>
              obtain ⟨r1, r2⟩ := HIN1.out.put hFob (by omega) (fun j hj => HFr.out j (by have := HON.out.size; omega)) (W := w1.drew) (by repeat (first | exact Below.refl _ _ | assumption | refine Below.drew ?_ | refine below_drewN ?_ _ | refine Below.alloc ?_ (by first | omega | (simp; done) | (simp; omega)) _ | refine Below.setCell ?_ (by first | omega | (simp; done) | (simp; omega)) _)) (by rw [hA]; exact hgr) hown (n := m) (by rw [← HST.out]; exact HPL2.out.symm) (.inl ⟨hA.symm, rfl⟩)
              refine ⟨k + 1, by omega, by go_num, ?_, ?_, (HON.out.trans (Only.of_below bw1)).trans r2⟩
              · rw [← HKEY.out, HH.out]
                simp
              · rw [← HST.out] at r1
                exact r1.congr fun j _ => lvD_succ L key k j
            case measure => simp [intOf]; omega
        | false =>
          have HH := hid hh
          clear hh
          go_wp2_with fail
          go_roundw
          case rel =>
            refine ⟨k + 1, by omega, by go_num, ?_, ⟨hFob, A, c, ?_⟩, HON.out.trans (Only.of_below bw1)⟩
            · rw [← HKEY.out, HH.out]
              simp
            · obtain ⟨_, A2, c2, h2⟩ : Ord F w1 ob (lvD L key (k + 1)) := by exact Ord.congr ⟨hFob, A, c, HIN1.out⟩ fun j _ => lvD_same HH.out j
              exact ⟨fun i hi => by rw [← lvD_same HH.out i]; exact HIN1.out.cell i hi, HIN1.out.frz, fun i hi => by rw [← lvD_same HH.out i]; exact HIN1.out.own i hi, HIN1.out.lies, HIN1.out.apart⟩
          case measure => simp [intOf]; omega
    · obtain rfl : k = n := by omega
      have HORD := hid hord
      have HON := hid honly
      clear hord honly
      go_wp2
      go_ret
      refine ⟨?_, ?_, HON.out⟩
      · have : decide (0 < k) = true := by simp; omega
        simp [this]
      · exact HORD.out.congr fun j _ => by rw [HN.out]; exact lvD_end L key j
end Go.Proofs.Ythadifbbepcdiaa
