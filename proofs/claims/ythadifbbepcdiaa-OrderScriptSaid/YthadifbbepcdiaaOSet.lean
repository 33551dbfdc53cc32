/- A link set in an order. -/
import Derived.Test.YthadifbbepcdiaaOOrd
namespace Go.Proofs.Ythadifbbepcdiaa
open Go.RowKit

/-- the levels when the first k of them have been set -/
def lvS (L : List Link) (x : Link) (k : Nat) : Nat → List Link := fun j => if j < k then setL (atLv L j) x else atLv L j
theorem lvS_at (L : List Link) (x : Link) (k : Nat) : lvS L x k k = atLv L k := by simp [lvS]
theorem lvS_succ (L : List Link) (x : Link) (k : Nat) (j : Nat) : upd (lvS L x k) k (setL (atLv L k) x) j = lvS L x (k + 1) j := by
  unfold upd lvS
  by_cases h : j = k
  · subst h; simp
  · rw [if_neg h]
    by_cases h2 : j < k
    · rw [if_pos h2, if_pos (by omega)]
    · rw [if_neg h2, if_neg (by omega)]
theorem lvS_end {L : List Link} (h : Rise L) (x : Link) (j : Nat) : lvS L x (lvlOf x.key) j = atLv (setL L x) j := by rw [lv_set h]; rfl
theorem set_nil (x : Link) (w : World) : Calls Try.prog 14 #[.pointer none, .agg #[.string x.key, .int .u64 x.id, .int .u64 x.ver, .int .i64 x.line, .int .i64 x.cls]] w fun e w' => e = .returned (.bool false) ∧ Below w.heap.size w w' := by
  go_enter Try.func14, Try.ntmps14
  go_wp2
  go_ret
  exact ⟨rfl, (by repeat (first | exact Below.refl _ _ | assumption | refine Below.drew ?_ | refine below_drewN ?_ _ | refine Below.alloc ?_ (by first | omega | (simp; done) | (simp; omega)) _ | refine Below.setCell ?_ (by first | omega | (simp; done) | (simp; omega)) _))⟩
theorem row_cells {w : World} {b : Nat} {cs : Array Value} {t : TypeId} (h : w.heap[b]? = some (.cells cs t (0, 0))) (j : Nat) : w.cell? ⟨b, j, none⟩ = cs[j]? := cell_of_row w b j _ _ _ h
set_option maxHeartbeats 8000000 in
set_option maxRecDepth 100000 in
theorem set_any {F : Nat → Prop} {L : List Link} {ob : Nat} (x : Link) (w : World) (h : Ord F w ob (atLv L)) (hF : ∀ j, w.heap.size ≤ j → F j) (hr : Rise L) (hlen : L.length ≤ 1000) (hkey : x.key.size ≤ 1000000) :
    Calls Try.prog 14 #[.pointer (some ⟨ob, 0, none⟩), .agg #[.string x.key, .int .u64 x.id, .int .u64 x.ver, .int .i64 x.line, .int .i64 x.cls]] w fun e w' => e = .returned (.bool (hasL L x.key)) ∧ Ord F w' ob (atLv (setL L x)) ∧ Only F w w' := by
  have hob := h.lt
  have HO := hid h
  have HR := hid hr
  have HFr := hid hF
  obtain ⟨n, hn⟩ : ∃ n, n = lvlOf x.key := ⟨_, rfl⟩
  have hn4 := lvlOf_pos x.key
  rw [← hn] at hn4
  have hlev : ∀ w, Calls Try.prog 23 #[.string x.key] w fun e w' => e = .returned (.int .i64 (n : Nat)) ∧ w = w' := fun w => by rw [hn]; exact level_any x.key hkey w
  have HN := hid hn
  have hn1 := hn4.1
  have hn2 := hn4.2
  clear h hr hF hn hn4 hkey
  go_enter Try.func14, Try.ntmps14
  go_wp2_with (go_at_call 23; refine (hlev _).mono ?_; rintro e w' ⟨rfl, rfl⟩)
  obtain ⟨W0, hW0⟩ : ∃ W0, W0 = w.alloc (.cells #[.string x.key, .int .u64 x.id, .int .u64 x.ver, .int .i64 x.line, .int .i64 x.cls] 29) := ⟨_, rfl⟩
  rw [← hW0]
  have HW0 := hid hW0
  have hz0 : W0.heap.size = w.heap.size + 1 := by rw [hW0]; simp
  have hb0 : Below w.heap.size w W0 := by rw [hW0]; exact (by repeat (first | exact Below.refl _ _ | assumption | refine Below.drew ?_ | refine below_drewN ?_ _ | refine Below.alloc ?_ (by first | omega | (simp; done) | (simp; omega)) _ | refine Below.setCell ?_ (by first | omega | (simp; done) | (simp; omega)) _))
  have hx0 : W0.heap[w.heap.size]? = some (.cells #[.string x.key, .int .u64 x.id, .int .u64 x.ver, .int .i64 x.line, .int .i64 x.cls] 29 (0, 0)) := by rw [hW0]; exact Array.getElem?_push_size
  have HX0 := hid hx0
  clear hW0 hx0
  have HO0 : Hid (Ord (fun j => F j ∧ j ≠ w.heap.size) W0 ob (lvS L x 0)) := hid ((((HO.out.trim).mono (G := fun j => F j ∧ j ≠ w.heap.size) (fun j hj => ⟨hj.1, by have := hj.2; omega⟩)).below hb0).congr fun j _ => by simp [lvS])
  go_loopw [5, 14] (fun v5 v14 wr => ∃ k : Nat, k ≤ n ∧ v14 = .int .i64 k ∧ v5 = .bool (decide (0 < k) && hasL L x.key) ∧ Ord (fun j => F j ∧ j ≠ w.heap.size) wr ob (lvS L x k) ∧ Only (fun j => F j ∧ j ≠ w.heap.size) W0 wr) (fun _ v14 _ => n - (intOf v14).toNat)
  case atStart => exact ⟨0, Nat.zero_le _, rfl, by simp, HO0.out, Only.refl _ _⟩
  case round =>
    obtain ⟨k, hkn, rfl, rfl, hord, honly⟩ := hrel
    by_cases hlt : k < n
    · have hxr := (honly.block w.heap.size (by omega) (fun hh => hh.2 rfl)).trans HX0.out
      have x0 := row_cells hxr 0
      have x1 := row_cells hxr 1
      have x2 := row_cells hxr 2
      have x3 := row_cells hxr 3
      have x4 := row_cells hxr 4
      simp at x0 x1 x2 x3 x4
      obtain ⟨hFob, A, c, hin⟩ := hord
      have c0 := hin.cell k (by omega)
      have HIN := hid hin
      have HON := hid honly
      have hobr := hin.lt
      have hsz := honly.size
      rw [lvS_at] at c0
      have hown := hin.own k (by omega)
      rw [lvS_at] at hown
      have HOW := hid hown
      have hln := hown.len
      have hmx := hown.max
      have hk4 : (k : Int) < 4 := by omega
      have hll : (atLv L k).length ≤ 100000 := by have := lv_len L k; omega
      clear hin honly hown hxr
      go_wp2_with fail
      go_region_with (go_at_call 22; refine (find_any (atLv L k) (rise_lv HR.out k) _ _ x.key _ (((HOW.out.arr Link.enc_len).below (by repeat (first | exact Below.refl _ _ | assumption | refine Below.drew ?_ | refine below_drewN ?_ _ | refine Below.alloc ?_ (by first | omega | (simp; done) | (simp; omega)) _ | refine Below.setCell ?_ (by first | omega | (simp; done) | (simp; omega)) _))).more (by first | omega | (simp; done) | (simp; omega))) hln hmx hll).mono ?_; rintro e w1 ⟨rfl, hb1⟩)
      all_goals
        have bw1 : Below wr.heap.size wr w1 := Below.trans (by repeat (first | exact Below.refl _ _ | assumption | refine Below.drew ?_ | refine below_drewN ?_ _ | refine Below.alloc ?_ (by first | omega | (simp; done) | (simp; omega)) _ | refine Below.setCell ?_ (by first | omega | (simp; done) | (simp; omega)) _)) (hb1.mono (by first | omega | (simp; done) | (simp; omega)))
        have hz1 := bw1.size
        have c1 := (bw1.cell (p := ⟨ob, k, none⟩) hobr).trans c0
        have hxw : w.heap.size < wr.heap.size := by omega
        have y0 := (bw1.cell (p := ⟨w.heap.size, 0, none⟩) hxw).trans x0
        have y1 := (bw1.cell (p := ⟨w.heap.size, 1, none⟩) hxw).trans x1
        have y2 := (bw1.cell (p := ⟨w.heap.size, 2, none⟩) hxw).trans x2
        have y3 := (bw1.cell (p := ⟨w.heap.size, 3, none⟩) hxw).trans x3
        have y4 := (bw1.cell (p := ⟨w.heap.size, 4, none⟩) hxw).trans x4
        have HIN1 := hid (HIN.out.below bw1)
        have HOW1 := hid (HOW.out.below bw1)
        have hob1 : ob < w1.heap.size := by omega
        have hkey : hasL (atLv L k) x.key = hasL L x.key := has_lv (by rw [← HN.out]; exact hlt)
        have HKEY := hid hkey
        clear hkey c0 x0 x1 x2 x3 x4 hb1
        obtain ⟨p, hp⟩ : ∃ p, p = posL (atLv L k) x.key := ⟨_, rfl⟩
        rw [← hp]
        have HP := hid hp
        clear hp
        cases hh : hasL (atLv L k) x.key with
        | true =>
          have HH := hid hh
          have HS := setL_has (rise_lv HR.out k) hh
          rw [← HP.out] at HS
          have hpl := HS.1
          have hpl' : (p : Int) < ((atLv L k).length : Int) := by omega
          have HST := hid HS.2
          clear HS hh
          obtain ⟨b, off, hA, hB, k0, k1, k2, k3, k4⟩ := (HOW1.out.arr Link.enc_len).link hpl
          have hfz := HOW1.out.frozen hA (by omega)
          have f0 := hfz (off + p * 5)
          have f1 := hfz (off + p * 5 + 1)
          have f2 := hfz (off + p * 5 + 2)
          have f3 := hfz (off + p * 5 + 3)
          have f4 := hfz (off + p * 5 + 4)
          rw [hA] at c1
          clear hfz
          have hput : Ord (fun j => F j ∧ j ≠ w.heap.size) (w1.setCells b (off + p * 5) x.enc).drew ob (lvS L x (k + 1)) ∧ Only (fun j => F j ∧ j ≠ w.heap.size) w1 (w1.setCells b (off + p * 5) x.enc).drew := by
            have g := setCells_grown b x.enc (off + p * 5) w1
            have hck : ¬ (c k = 0) := by omega
            have ho2 : Own Link.enc 29 5 (w1.setCells b (off + p * 5) x.enc).drew 0 (A k) (c k) (setL (atLv L k) x) := by
              have ho := HOW1.out
              rw [hA] at ho ⊢
              rw [HST.out]
              exact (ho.setLink hpl x).drew
            obtain ⟨r1, r2⟩ := HIN1.out.put2 hFob (by omega) (w3 := (w1.setCells b (off + p * 5) x.enc).drew) (by rw [hA, rowOf, if_neg hck]; exact ⟨g.os, g.tape, g.output, g.size, g.block⟩) ho2 (by rw [lvS_at, HST.out, List.length_set])
            exact ⟨r1.congr fun j _ => lvS_succ L x k j, r2⟩
          have HPUT := hid hput
          clear hput
          go_wp2_with fail
          go_region
          all_goals
            go_wp2_with fail
            go_roundw
            case rel =>
              refine ⟨k + 1, by omega, by go_num, ?_, HPUT.out.1, (HON.out.trans (Only.of_below bw1)).trans HPUT.out.2⟩
              rw [← HKEY.out, HH.out]
              simp
            case measure => simp [intOf]; omega
        | false =>
          have HH := hid hh
          have HS := setL_new (rise_lv HR.out k) hh
          rw [← HP.out] at HS
          have hpl := HS.1
          have HST := hid HS.2
          have HL4 := hid (HIN1.out.lies k (by omega))
          have q1' := HIN1.out.frz k
          clear HS hh
          go_wp2_with fail
          go_region_with (go_at_call 24; refine (ins_anyLink (atLv L k) (A k) (c k) 0 w1.heap.size p x _ ?_ ?_ (Nat.zero_le _) hll hpl ?_).mono ?_; (exact HOW1.out.below (by repeat (first | exact Below.refl _ _ | assumption | refine Below.drew ?_ | refine below_drewN ?_ _ | refine Below.alloc ?_ (by first | omega | (simp; done) | (simp; omega)) _ | refine Below.setCell ?_ (by first | omega | (simp; done) | (simp; omega)) _))); (exact Array.getElem?_push_size); (rcases HOW1.out.lt with h0 | ⟨b, off, hA, _, hlt⟩; exact .inl h0; exact .inr fun b' o' hA' hbb => by rw [hA] at hA'; cases hA'; omega); rintro e w3 ⟨A', c', rfl, hown, hgr, hloc⟩; have hb3 : w3.heap[ob]? = w1.heap[ob]? := ((hgr.block ob (by simp; omega) fun hr => ((HOW1.out.row HL4.out ob hr.symm).2 rfl)).trans (Below.heap_alloc _ _ _ (show ob < w1.heap.size by omega))); have q0 := (cell_same_block (p := ⟨ob, k, none⟩) hb3).trans c1; have q1 := (frozen_same_block (p := ⟨ob, k, none⟩) hb3).trans q1')
          all_goals
            go_wp2_with fail
            go_roundw
            case rel =>
              obtain ⟨r1, r2⟩ := HIN1.out.put hFob (by omega) (fun j hj => ⟨HFr.out j (by omega), by omega⟩) (by repeat (first | exact Below.refl _ _ | assumption | refine Below.drew ?_ | refine below_drewN ?_ _ | refine Below.alloc ?_ (by first | omega | (simp; done) | (simp; omega)) _ | refine Below.setCell ?_ (by first | omega | (simp; done) | (simp; omega)) _)) hgr hown (ins_length _ _ _ hpl).symm hloc
              refine ⟨k + 1, by omega, by go_num, ?_, ?_, (HON.out.trans (Only.of_below bw1)).trans r2⟩
              · rw [← HKEY.out, HH.out]
                simp
              · rw [← HST.out] at r1
                exact r1.congr fun j _ => lvS_succ L x k j
            case measure => simp [intOf]; omega
    · obtain rfl : k = n := by omega
      have HORD := hid hord
      have HON := hid honly
      clear hord honly
      go_wp2
      go_ret
      refine ⟨?_, ?_, (Only.of_below hb0).trans (HON.out.mono fun j hj => hj.1)⟩
      · have : decide (0 < k) = true := by simp; omega
        simp [this]
      · have := HORD.out.mono (G := F) (fun j hj => hj.1)
        exact this.congr fun j _ => by rw [HN.out]; exact lvS_end HR.out x j
end Go.Proofs.Ythadifbbepcdiaa
