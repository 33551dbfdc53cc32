/- The reference's Set and Drop; two lists of links compared; one written over. -/
import Derived.Test.YthadifbbepcdiaaOTab
import Derived.Test.YthadifbbepcdiaaOLevels
namespace Go.Proofs.Ythadifbbepcdiaa
open Go.RowKit

/-- what a Set has put out behind i links of those without the key -/
def outS (l : List Link) (p : Nat) (x : Link) (i : Nat) : List Link := if i ≤ p then l.take i else l.take p ++ x :: (l.drop p).take (i - p)
theorem outS_low {l : List Link} {p i : Nat} {x : Link} (hi : i < l.length) (h : i < p) : outS l p x (i + 1) = outS l p x i ++ [l[i]] := by
  rw [outS, outS, if_pos (by omega), if_pos (by omega), List.take_succ_eq_append_getElem hi]
theorem outS_at {l : List Link} {p : Nat} {x : Link} (hi : p < l.length) : outS l p x (p + 1) = (outS l p x p ++ [x]) ++ [l[p]] := by
  rw [outS, outS, if_neg (by omega), if_pos (Nat.le_refl _), Nat.add_sub_cancel_left]
  have : (l.drop p).take 1 = [l[p]] := by
    rw [List.drop_eq_getElem_cons hi]; rfl
  rw [this]
  simp
theorem outS_high {l : List Link} {p i : Nat} {x : Link} (hi : i < l.length) (h : p < i) : outS l p x (i + 1) = outS l p x i ++ [l[i]] := by
  rw [outS, outS, if_neg (by omega), if_neg (by omega)]
  have hd : i - p < (l.drop p).length := by rw [List.length_drop]; omega
  have e : i + 1 - p = i - p + 1 := by omega
  rw [e, List.take_succ_eq_append_getElem hd, List.getElem_drop]
  have e2 : p + (i - p) = i := by omega
  simp [e2]
theorem outS_len {l : List Link} {p i : Nat} {x : Link} (hi : i ≤ l.length) : (outS l p x i).length ≤ i + 1 := by
  unfold outS
  split
  · simp; omega
  · simp; omega
theorem posL_drop {l : List Link} (h : Rise l) (x : Link) : posL (dropL l x.key) x.key = posL l x.key := by
  obtain ⟨A, m, B, rfl, hA, hB, hm⟩ := rise_cut l x.key h
  rw [cut_drop hA hB hm, cut_pos hA hB hm]
  have := cut_pos (m := []) hA hB (.inl rfl)
  rwa [List.nil_append] at this
theorem setL_drop {l : List Link} (h : Rise l) (x : Link) : setL l x = (dropL l x.key).take (posL l x.key) ++ x :: (dropL l x.key).drop (posL l x.key) := by
  obtain ⟨A, m, B, rfl, hA, hB, hm⟩ := rise_cut l x.key h
  rw [cut_set hA hB hm rfl, cut_drop hA hB hm, cut_pos hA hB hm]
  simp
theorem drop_pos_le {l : List Link} (h : Rise l) (x : Link) : posL l x.key ≤ (dropL l x.key).length := by
  obtain ⟨A, m, B, rfl, hA, hB, hm⟩ := rise_cut l x.key h
  rw [cut_drop hA hB hm, cut_pos hA hB hm]
  simp
/-- those behind are greater, those ahead are less -/
def Parts (D : List Link) (p : Nat) (x : Link) : Prop := ∀ i, (hi : i < D.length) → if i < p then kl D[i].key x.key = true else kl x.key D[i].key = true
theorem drop_greater {l : List Link} (h : Rise l) (x : Link) : Parts (dropL l x.key) (posL l x.key) x := by
  intro i hi
  obtain ⟨A, m, B, rfl, hA, hB, hm⟩ := rise_cut l x.key h
  simp only [cut_pos hA hB hm]
  have e := cut_drop hA hB hm
  split
  · rename_i hlt
    have : (dropL (A ++ (m ++ B)) x.key)[i] ∈ A := by
      simp only [e, List.getElem_append_left hlt]
      exact List.getElem_mem hlt
    exact hA _ this
  · rename_i hge
    have : (dropL (A ++ (m ++ B)) x.key)[i] ∈ B := by
      simp only [e]
      rw [List.getElem_append_right (by omega)]
      exact List.getElem_mem _
    exact hB _ this
theorem setL_out {l : List Link} (h : Rise l) (x : Link) : setL l x = if posL l x.key < (dropL l x.key).length then outS (dropL l x.key) (posL l x.key) x (dropL l x.key).length else outS (dropL l x.key) (posL l x.key) x (dropL l x.key).length ++ [x] := by
  have hp := drop_pos_le h x
  rw [setL_drop h]
  split
  · rename_i hlt
    rw [outS, if_neg (by omega), List.take_of_length_le (l := List.drop _ _) (by simp)]
  · have : posL l x.key = (dropL l x.key).length := by omega
    rw [outS, if_pos (by omega), this]
    simp
set_option maxHeartbeats 8000000 in
set_option maxRecDepth 100000 in
theorem tset_any {G : Nat → Prop} {L : List Link} {tb : Nat} (x : Link) (w : World) (h : Tab G w tb L) (hG : ∀ j, w.heap.size ≤ j → G j) (hr : Rise L) (hlen : L.length ≤ 1000) :
    Calls Try.prog 15 #[.pointer (some ⟨tb, 0, none⟩), .agg #[.string x.key, .int .u64 x.id, .int .u64 x.ver, .int .i64 x.line, .int .i64 x.cls]] w fun e w' => e = .returned (.bool (hasL L x.key)) ∧ Tab G w' tb (setL L x) ∧ Only G w w' := by
  have htb := h.lt
  have HT := hid h
  have HGG := hid hG
  have HLK := hid (look_has L x.key)
  have HR := hid hr
  clear h hG hr
  go_enter Try.func15, Try.ntmps15
  go_wp2_with fail
  refine (tget_any x.key _ (HT.out.below (by repeat (first | exact Below.refl _ _ | assumption | refine Below.drew ?_ | refine below_drewN ?_ _ | refine Below.alloc ?_ (by first | omega | (simp; done) | (simp; omega)) _ | refine Below.setCell ?_ (by first | omega | (simp; done) | (simp; omega)) _))) hlen).mono ?_
  rintro e w1 ⟨rfl, hb1⟩
  rw [rightV_eta, HLK.out]
  have bw1 : Below w.heap.size w w1 := Below.trans (by repeat (first | exact Below.refl _ _ | assumption | refine Below.drew ?_ | refine below_drewN ?_ _ | refine Below.alloc ?_ (by first | omega | (simp; done) | (simp; omega)) _ | refine Below.setCell ?_ (by first | omega | (simp; done) | (simp; omega)) _)) (hb1.mono (show w.heap.size ≤ _ from (by first | omega | (simp; done) | (simp; omega))))
  have HX1 := hid (show BoxL w1 w.heap.size x from (hb1.block _ (by simp)).trans (Array.getElem?_push_size))
  have hz1 : w.heap.size < w1.heap.size := by have := hb1.size; simp at this; omega
  have htb1 : tb < w1.heap.size := by omega
  have x0 := row_cells HX1.out 0
  simp at x0
  have HT1 := hid (HT.out.below bw1)
  clear hb1
  obtain ⟨h0, A, c, hc, hf, hown, hlies⟩ := HT1.out
  have HOW := hid hown
  have hln := hown.len
  have hmx := hown.max
  clear hown
  go_wp2_with fail
  go_region_with (go_at_call 26; refine (without_any L A c x.key _ ((HOW.out.arr Link.enc_len).below (by repeat (first | exact Below.refl _ _ | assumption | refine Below.drew ?_ | refine below_drewN ?_ _ | refine Below.alloc ?_ (by first | omega | (simp; done) | (simp; omega)) _ | refine Below.setCell ?_ (by first | omega | (simp; done) | (simp; omega)) _)) |>.more (by first | omega | (simp; done) | (simp; omega))) hln hmx (by omega)).mono ?_; rintro e w2 ⟨A2, c2, rfl, hown2, hb2⟩)
  all_goals
    have bw2 : Below w.heap.size w w2 := Below.trans (b := _) (show Below w.heap.size w _ from (by have := bw1.size; exact (by repeat (first | exact Below.refl _ _ | assumption | refine Below.drew ?_ | refine below_drewN ?_ _ | refine Below.alloc ?_ (by first | omega | (simp; done) | (simp; omega)) _ | refine Below.setCell ?_ (by first | omega | (simp; done) | (simp; omega)) _)))) (hb2.mono (by have := bw1.size; first | exact this | (simp; done) | (simp; omega)))
    have hz2 : w1.heap.size < w2.heap.size := by have := hb2.size; simp at this; omega
    have st2 : Below w1.heap.size w1 w2 := Below.trans (b := _) (show Below w1.heap.size w1 _ from (by repeat (first | exact Below.refl _ _ | assumption | refine Below.drew ?_ | refine below_drewN ?_ _ | refine Below.alloc ?_ (by first | omega | (simp; done) | (simp; omega)) _ | refine Below.setCell ?_ (by first | omega | (simp; done) | (simp; omega)) _))) (hb2.mono (by first | omega | (simp; done) | (simp; omega)))
    have HX2 := hid (show BoxL w2 w.heap.size x from (st2.block _ hz1).trans HX1.out)
    have HT2 := hid (HT1.out.below st2)
    have HD := hid (hown2.arr Link.enc_len)
    have hln2 := hown2.len
    have hmx2 := hown2.max
    have HPL := hid (drop_pos_le HR.out x)
    have HGR := hid (drop_greater HR.out x)
    have HSO := hid (setL_out HR.out x)
    have hDl := dropL_len L x.key
    obtain ⟨D, hDD⟩ : ∃ D, D = dropL L x.key := ⟨_, rfl⟩
    obtain ⟨p, hp⟩ : ∃ p, p = posL L x.key := ⟨_, rfl⟩
    simp only [← hDD, ← hp] at HD HPL HGR HSO hDl hln2 ⊢
    clear hown2 hb2 hDD hp x0 hc hf
    go_wp2_with fail
    go_loopw [7, 8, 10] (fun v7 v8 v10 wr => ∃ (i : Nat) (A' : Option Addr) (c' : Nat), i ≤ D.length ∧ v10 = .int .i64 i ∧ v8 = .bool (decide (p < i)) ∧ v7 = .slice A' (outS D p x i).length c' ∧ Own Link.enc 29 5 wr w2.heap.size A' c' (outS D p x i) ∧ Below w2.heap.size w2 wr) (fun _ _ v10 _ => D.length - (intOf v10).toNat)
    case atStart => exact ⟨0, none, 0, Nat.zero_le _, rfl, by simp, by simp [outS], by simp [outS]; exact Own.none_, Below.refl _ _⟩
    case round =>
      obtain ⟨i, A', c', hil, rfl, rfl, rfl, hown, hbw⟩ := hrel
      have HOWN := hid hown
      have hsz := hbw.size
      clear hown
      have HX := hid (show BoxL wr w.heap.size x from (hbw.block _ (by omega)).trans HX2.out)
      have x0 := row_cells HX.out 0
      have x1 := row_cells HX.out 1
      have x2 := row_cells HX.out 2
      have x3 := row_cells HX.out 3
      have x4 := row_cells HX.out 4
      simp at x0 x1 x2 x3 x4
      have hwz : w.heap.size < wr.heap.size := by omega
      have HLL := hid (outS_len (p := p) (x := x) hil)
      by_cases hlt : i < D.length
      · obtain ⟨b, off, rfl, hB, j0, j1, j2, j3, j4⟩ := HD.out.link hlt
        have k0 := (hbw.cell (p := ⟨b, off + i * 5, none⟩) hB).trans j0
        have k1 := (hbw.cell (p := ⟨b, off + i * 5 + 1, none⟩) hB).trans j1
        have k2 := (hbw.cell (p := ⟨b, off + i * 5 + 2, none⟩) hB).trans j2
        have k3 := (hbw.cell (p := ⟨b, off + i * 5 + 3, none⟩) hB).trans j3
        have k4 := (hbw.cell (p := ⟨b, off + i * 5 + 4, none⟩) hB).trans j4
        have hbr : b < wr.heap.size := by omega
        have hgr := HGR.out i hlt
        rcases (by omega : i < p ∨ i = p ∨ p < i) with hip | hip | hip
        · rw [if_pos hip] at hgr
          have hbl : Op.bytesLess D[i].key.toList x.key.toList = true := hgr
          have hd : decide (p < i) = false := by simp; omega
          have HS := hid (outS_low (x := x) hlt hip)
          have hd2 : decide (p < i + 1) = false := by simp; omega
          have HD2 := hid hd2
          obtain ⟨M, hM⟩ : ∃ M, M = outS D p x i := ⟨_, rfl⟩
          rw [← hM] at HS HOWN HLL ⊢
          rw [hd]
          clear hgr hd hd2 hM j0 j1 j2 j3 j4
          go_wp2_with fail
          go_quiet (fail)
          go_wp2_with (at_builtin; refine app_link (l := M) (m := [D[i]]) (A := A') (c := c') (lo := w2.heap.size) _ rfl (.tmp 47) (.tmp 52) (by first | rfl | simp [Act.eval]) rfl ((HOWN.out.drewN _).alloc _) 1 rfl (arr_oneLink (row_new _ _ _)) (by have := HLL.out; simp; omega) (by simp; omega) ?_; intro A3 c3 w3 hown3 hgr3 hloc3)
          refine ⟨⟨i + 1, A3, c3, by omega, by go_num, by rw [HD2.out], by rw [HS.out]; simp, by rw [HS.out]; exact hown3, own_below ((HOWN.out.drewN _).alloc _) hgr3 (show Below w2.heap.size w2 _ from (by repeat (first | exact Below.refl _ _ | assumption | refine Below.drew ?_ | refine below_drewN ?_ _ | refine Below.alloc ?_ (by first | omega | (simp; done) | (simp; omega)) _ | refine Below.setCell ?_ (by first | omega | (simp; done) | (simp; omega)) _))) (by simp; omega)⟩, by simp [intOf]; omega⟩
        · subst hip
          rw [if_neg (by omega)] at hgr
          have hbl : Op.bytesLess D[i].key.toList x.key.toList = false := kl_asymm hgr
          have hbe : (D[i].key.toList == x.key.toList) = false := by rw [beq_eq_false_iff_ne]; exact fun e => kl_ne hgr (toList_inj e).symm
          have hd : decide (i < i) = false := by simp
          have HS := hid (outS_at (x := x) hlt)
          obtain ⟨M, hM⟩ : ∃ M, M = outS D i x i := ⟨_, rfl⟩
          rw [← hM] at HS HOWN HLL ⊢
          rw [hd]
          clear hgr hd hM k0 k1 k2 k3 k4
          have k0 := (hbw.cell (p := ⟨b, off + i * 5, none⟩) hB).trans j0
          have J := hid (show w2.cell? _ = _ ∧ w2.cell? _ = _ ∧ w2.cell? _ = _ ∧ w2.cell? _ = _ ∧ w2.cell? _ = _ from ⟨j0, j1, j2, j3, j4⟩)
          go_wp2_with fail
          go_quiet (fail)
          go_wp2_with (first | (at_builtin; refine app_link (l := M) (m := [x]) (A := A') (c := c') (lo := w2.heap.size) _ rfl (.tmp 43) (.tmp 45) (by first | rfl | simp [Act.eval]) rfl ((HOWN.out.drewN _).alloc _) 1 rfl (arr_oneLink (row_new _ _ _)) (by have := HLL.out; simp; omega) (by simp; omega) ?_; intro A3 c3 w3 hown3 hgr3 hloc3; have hb3 : Below w2.heap.size w2 w3 := own_below ((HOWN.out.drewN _).alloc _) hgr3 (show Below w2.heap.size w2 _ from (by repeat (first | exact Below.refl _ _ | assumption | refine Below.drew ?_ | refine below_drewN ?_ _ | refine Below.alloc ?_ (by first | omega | (simp; done) | (simp; omega)) _ | refine Below.setCell ?_ (by first | omega | (simp; done) | (simp; omega)) _))) (by simp; omega); have hs3 := hb3.size; have q0 := (hb3.cell (p := ⟨b, off + i * 5, none⟩) hB).trans j0; have q1 := (hb3.cell (p := ⟨b, off + i * 5 + 1, none⟩) hB).trans j1; have q2 := (hb3.cell (p := ⟨b, off + i * 5 + 2, none⟩) hB).trans j2; have q3 := (hb3.cell (p := ⟨b, off + i * 5 + 3, none⟩) hB).trans j3; have q4 := (hb3.cell (p := ⟨b, off + i * 5 + 4, none⟩) hB).trans j4) | (at_builtin; refine app_link (l := M ++ [x]) (m := [D[i]]) (A := A3) (c := c3) (lo := w2.heap.size) _ rfl (.tmp 47) (.tmp 52) (by first | rfl | simp [Act.eval]) (by simp [Act.eval]) (hown3.alloc _) 1 rfl (arr_oneLink (row_new _ _ _)) (by have := HLL.out; simp; omega) (by simp; omega) ?_; intro A4 c4 w4 hown4 hgr4 hloc4))
          refine ⟨⟨i + 1, A4, c4, by omega, by go_num, by simp, by rw [HS.out]; simp, by rw [HS.out]; exact hown4, own_below (hown3.alloc _) hgr4 (show Below w2.heap.size w2 _ from (by repeat (first | exact Below.refl _ _ | assumption | refine Below.drew ?_ | refine below_drewN ?_ _ | refine Below.alloc ?_ (by first | omega | (simp; done) | (simp; omega)) _ | refine Below.setCell ?_ (by first | omega | (simp; done) | (simp; omega)) _))) (by simp; omega)⟩, by simp [intOf]; omega⟩
        · rw [if_neg (by omega)] at hgr
          have hd : decide (p < i) = true := by simp; omega
          have HS := hid (outS_high (x := x) hlt hip)
          have hd2 : decide (p < i + 1) = true := by simp; omega
          have HD2 := hid hd2
          obtain ⟨M, hM⟩ : ∃ M, M = outS D p x i := ⟨_, rfl⟩
          rw [← hM] at HS HOWN HLL ⊢
          rw [hd]
          clear hgr hd hd2 hM j0 j1 j2 j3 j4
          go_wp2_with fail
          go_quiet (fail)
          go_wp2_with (at_builtin; refine app_link (l := M) (m := [D[i]]) (A := A') (c := c') (lo := w2.heap.size) _ rfl (.tmp 47) (.tmp 52) (by first | rfl | simp [Act.eval]) rfl ((HOWN.out.drewN _).alloc _) 1 rfl (arr_oneLink (row_new _ _ _)) (by have := HLL.out; simp; omega) (by simp; omega) ?_; intro A3 c3 w3 hown3 hgr3 hloc3)
          refine ⟨⟨i + 1, A3, c3, by omega, by go_num, by rw [HD2.out], by rw [HS.out]; simp, by rw [HS.out]; exact hown3, own_below ((HOWN.out.drewN _).alloc _) hgr3 (show Below w2.heap.size w2 _ from (by repeat (first | exact Below.refl _ _ | assumption | refine Below.drew ?_ | refine below_drewN ?_ _ | refine Below.alloc ?_ (by first | omega | (simp; done) | (simp; omega)) _ | refine Below.setCell ?_ (by first | omega | (simp; done) | (simp; omega)) _))) (by simp; omega)⟩, by simp [intOf]; omega⟩
      · have hiD : i = D.length := by omega
        have HT3 := hid (HT2.out.below hbw)
        obtain ⟨h0', A0, c0, hc, hf, hown0, hlies0⟩ := HT3.out
        have htr : tb < wr.heap.size := by omega
        have HIN := HPL.out
        have hbz := bw2.trans (hbw.mono bw2.size)
        by_cases hpi : p < D.length
        · have hd : decide (p < i) = true := by simp; omega
          have HS : Hid (outS D p x i = setL L x) := hid (by rw [HSO.out, if_pos hpi, hiD])
          rw [hd]
          rw [HS.out] at HOWN ⊢
          clear hd
          go_wp2_with fail
          go_ret
          refine ⟨rfl, ⟨h0, A', c', ?_, ?_, (HOWN.out.setCell (p := ⟨tb, 0, none⟩) (by show tb < w2.heap.size; omega) _).lower (Nat.zero_le _), ?_⟩, ?_⟩
          · exact World.cell?_setCell_same _ _ _ hc
          · rw [World.frozen?_setCell]; exact hf
          · rcases HOWN.out.lt with hc0 | ⟨b, off, hA, hlo, hlt'⟩
            · exact .inl hc0
            · exact .inr fun b' o' hA' => by rw [hA] at hA'; cases hA'; exact ⟨HGG.out _ (by omega), by omega⟩
          · exact (Only.of_below hbz).setCell _ _ h0
        · have hd : decide (p < i) = false := by simp; omega
          have HS : Hid (outS D p x i ++ [x] = setL L x) := hid (by rw [HSO.out, if_neg hpi, hiD])
          rw [hd]
          obtain ⟨M, hM⟩ : ∃ M, M = outS D p x i := ⟨_, rfl⟩
          rw [← hM] at HS HOWN HLL ⊢
          have HF := hid hf
          have HC := hid hc
          clear hd hM hc hf
          go_wp2_with (at_builtin; refine app_link (l := M) (m := [x]) (A := A') (c := c') (lo := w2.heap.size) _ rfl (.tmp 56) (.tmp 58) (by first | rfl | simp [Act.eval]) rfl (HOWN.out.alloc _) 1 rfl (arr_oneLink (row_new _ _ _)) (by have := HLL.out; simp; omega) (by simp; omega) ?_; intro A3 c3 w3 hown3 hgr3 hloc3; have hb3 : Below w2.heap.size w2 w3 := own_below (HOWN.out.alloc _) hgr3 (show Below w2.heap.size w2 _ from (by repeat (first | exact Below.refl _ _ | assumption | refine Below.drew ?_ | refine below_drewN ?_ _ | refine Below.alloc ?_ (by first | omega | (simp; done) | (simp; omega)) _ | refine Below.setCell ?_ (by first | omega | (simp; done) | (simp; omega)) _))) (by simp; omega); have hc3 : w3.cell? ⟨tb, 0, none⟩ = _ := (hb3.cell (p := ⟨tb, 0, none⟩) (by show tb < w2.heap.size; omega)).trans ((hbw.cell (p := ⟨tb, 0, none⟩) (by show tb < w2.heap.size; omega)).symm.trans HC.out); have hf3 := (hb3.frozen (p := ⟨tb, 0, none⟩) (by show tb < w2.heap.size; omega)).trans ((hbw.frozen (p := ⟨tb, 0, none⟩) (by show tb < w2.heap.size; omega)).symm.trans HF.out))
          go_ret
          rw [HS.out] at hown3
          have hlen : M.length + 1 = (setL L x).length := by rw [← HS.out]; simp
          refine ⟨rfl, ⟨h0, A3, c3, ?_, ?_, (hown3.setCell (p := ⟨tb, 0, none⟩) (by show tb < w2.heap.size; omega) _).lower (Nat.zero_le _), ?_⟩, ?_⟩
          · rw [← hlen]; exact World.cell?_setCell_same _ _ _ hc3
          · rw [World.frozen?_setCell]; exact hf3
          · rcases hown3.lt with hc0 | ⟨b, off, hA, hlo, hlt'⟩
            · exact .inl hc0
            · exact .inr fun b' o' hA' => by rw [hA] at hA'; cases hA'; exact ⟨HGG.out _ (by omega), by omega⟩
          · exact (Only.of_below (bw2.trans (hb3.mono bw2.size))).setCell _ _ h0
end Go.Proofs.Ythadifbbepcdiaa
