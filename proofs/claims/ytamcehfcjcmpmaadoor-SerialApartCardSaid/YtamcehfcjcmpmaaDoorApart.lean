/- The statement SerialApart: the walk. -/
import Derived.Test.YtamcehfcjcmpmaaDoorOwn3
import Derived.Test.YtamcehfcjcmpmaaDoorPla
import Derived.Test.YtamcehfcjcmpmaaDoorLg
import Derived.Deep.DeepCutAuto
namespace Go.Proofs.YtamcehfcjcmpmaaDoor
open Go.RowKit

/-- what a round may add of a list -/
def MayAdd (key : ByteArray) (t : Int) (la n : Nat) (ox : List Item) : Prop := (la ≤ n ∧ ox = []) ∨ (n < la ∧ ∃ x, ox = [x] ∧ PlI key t x)
theorem stories_app (xs ys : List Item) : stories (xs ++ ys) = stories xs ++ stories ys := by simp [stories]
theorem stories_len (xs : List Item) : (stories xs).length = xs.length := by simp [stories]
theorem stories_one (x : Item) : stories [x] = [x.s] := rfl
set_option maxHeartbeats 1500000 in
set_option maxRecDepth 100000 in
theorem serialApart_any (us : List Item) (A : Option Addr) (c : Nat) (vs : List Item) (B : Option Addr) (d : Nat) (w : World) (hA : StsRaw w w.heap.size A c us) (hB : StsRaw w w.heap.size B d vs) (htab : Tab w.heap.size w) :
    Calls Tryd.prog 7 #[.slice A us.length c, .slice B vs.length d] w fun e w' => e = .returned (.bool true) ∧ Below w.heap.size w w' := by
  have HT := hid htab
  have HA := hid hA
  have HB := hid hB
  have hac := hA.cap
  have ham := hA.max
  have hbc := hB.cap
  have hbm := hB.max
  clear htab hA hB
  have AW : ∀ W, Below w.heap.size w W → Calls Tryd.prog 11 #[] W fun e w' => e = .returned (.bool true) ∧ Below W.heap.size W w' := fun W hW => awake25 W (HT.out.up hW)
  have LA : ∀ W, Below w.heap.size w W → Calls Tryd.prog 10 #[.agg #[.slice none 0 0, .slice none 0 0], .slice A us.length c] W (GivesLg ⟨[], []⟩ us W) := fun W hW => large25_any ⟨[], []⟩ none 0 none 0 us A c W (shIn_nil W _) ⟨(HA.out.arr.below hW).more hW.size, fun x hx => ((HA.out.each x hx).below hW).more hW.size, hac, ham⟩
  have LB : ∀ W, Below w.heap.size w W → Calls Tryd.prog 10 #[.agg #[.slice none 0 0, .slice none 0 0], .slice B vs.length d] W (GivesLg ⟨[], []⟩ vs W) := fun W hW => large25_any ⟨[], []⟩ none 0 none 0 vs B d W (shIn_nil W _) ⟨(HB.out.arr.below hW).more hW.size, fun x hx => ((HB.out.each x hx).below hW).more hW.size, hbc, hbm⟩
  by_cases g1 : (5 : Int) < (us.length : Int)
  · go_enter Tryd.func7, Tryd.ntmps7
    go_wp2_with (go_at_call 11; refine (AW _ (Below.refl _ _)).mono ?_; rintro e w1 ⟨rfl, hb1⟩)
    go_ret
    exact ⟨rfl, hb1⟩
  by_cases g2 : (5 : Int) < (vs.length : Int)
  · go_enter Tryd.func7, Tryd.ntmps7
    go_wp2_with (go_at_call 11; refine (AW _ (Below.refl _ _)).mono ?_; rintro e w1 ⟨rfl, hb1⟩)
    go_ret
    exact ⟨rfl, hb1⟩
  go_enter Tryd.func7, Tryd.ntmps7
  go_wp2_with fail
  refine (LA _ (Below.refl _ _)).mono ?_
  rintro e w1 ⟨r1, rfl, hb1, hl1⟩
  cases r1 with
  | true =>
    clear hl1
    go_wp2_with (go_at_call 11; refine (AW _ hb1).mono ?_; rintro e w3 ⟨rfl, hb3⟩)
    go_ret
    exact ⟨rfl, hb1.trans (hb3.mono hb1.size)⟩
  | false =>
  go_wp2_with fail
  refine (LB _ hb1).mono ?_
  rintro e w2 ⟨r2, rfl, hb2, hl2⟩
  have bw2 : Below w.heap.size w w2 := hb1.trans (hb2.mono hb1.size)
  cases r2 with
  | true =>
    clear hl1 hl2
    go_wp2_with (go_at_call 11; refine (AW _ bw2).mono ?_; rintro e w3 ⟨rfl, hb3⟩)
    go_ret
    exact ⟨rfl, bw2.trans (hb3.mono bw2.size)⟩
  | false =>
  clear hl1 hl2 hb1 hb2 LA LB
  go_wp2_with fail
  go_loopw [5, 6, 7, 8] (fun v5 v6 v7 v8 wr => ∃ (n : Nat) (X Y L : List Item) (Ax : Option Addr) (cx : Nat) (Ay : Option Addr) (cy : Nat) (Al : Option Addr) (cl : Nat), n ≤ 5 ∧ v8 = .int .i64 n ∧ v5 = .slice Ax (stories X).length cx ∧ v6 = .slice Ay (stories Y).length cy ∧ v7 = .slice Al (stories L).length cl ∧ Own3 wr w.heap.size Ax cx (stories X) Ay cy (stories Y) Al cl (stories L) ∧ Deal n us.length vs.length X Y L ∧ Below w.heap.size w wr) (fun _ _ _ v8 _ => 5 - (intOf v8).toNat)
  case atStart => exact ⟨0, [], [], [], none, 0, none, 0, none, 0, Nat.zero_le _, rfl, rfl, rfl, rfl, ⟨Own.none_, Own.none_, Own.none_, fun _ _ _ _ h => (by cases h), fun _ _ _ _ h => (by cases h), fun _ _ _ _ h => (by cases h)⟩, Deal.nil _ _, bw2⟩
  case round =>
    obtain ⟨n, X, Y, L, Ax, cx, Ay, cy, Al, cl, hn5, rfl, rfl, rfl, rfl, hO, hD, hb⟩ := hrel
    have HO := hid hO
    have HD := hid hD
    clear hO hD bw2
    have hsz := hb.size
    by_cases hlt : n < 5
    · have hlX : (stories X).length ≤ 5 := by rw [stories_len, HD.out.lx]; omega
      have hlY : (stories Y).length ≤ 5 := by rw [stories_len, HD.out.ly]; omega
      have hlL : (stories L).length ≤ 10 := by have := HD.out.perm.length_eq; rw [List.length_append, HD.out.lx, HD.out.ly] at this; rw [stories_len]; omega
      have HLX := hid hlX
      have HLY := hid hlY
      have HLL := hid hlL
      clear hlX hlY hlL
      go_upto_if 43 with fail
      go_cut [5, 7, 9] (fun v5 v7 _ wx => ∃ (ox : List Item) (Ax' : Option Addr) (cx' : Nat) (Al' : Option Addr) (cl' : Nat), MayAdd ⟨#[97]⟩ (4 * (n : Int)) us.length n ox ∧ v5 = .slice Ax' (stories (X ++ ox)).length cx' ∧ v7 = .slice Al' (stories (L ++ ox)).length cl' ∧ Own3 wx w.heap.size Ax' cx' (stories (X ++ ox)) Ay cy (stories Y) Al' cl' (stories (L ++ ox)) ∧ Below w.heap.size w wx)
      case first =>
        by_cases ha : n < us.length
        · have hlt' : n < (stories us).length := by rw [stories_len]; exact ha
          obtain ⟨b, off, hA', hB', hcells⟩ := (HA.out.arr.below hb).story hlt'
          rw [stories_get us n hlt' ha] at hcells
          obtain ⟨c0, c1, c2, c3, c4, c5, c6, c7, c8, c9, c10, c11, c12, c13⟩ := hcells
          subst hA'
          have hbr : b < wr.heap.size := Nat.lt_of_lt_of_le hB' hsz
          have PT := fun W => plain_any us[n].s ⟨#[97]⟩ (4 * (n : Int)) (by omega) (by omega) W
          unfold storyV at PT
          go_upto_region 9 with (go_at_call 19; refine (PT _).mono ?_; rintro e w1 ⟨hb1, x, hx, rfl⟩)
          generalize hw3 : World.alloc w1 _ = w3
          have hq := hb1.size
          have R3 : w3.heap[w1.heap.size]? = some (.cells x.s.enc.toArray 44 (0, 0)) := by rw [← hw3]; exact (heap_alloc_if _ _ _).trans (if_pos rfl)
          have st3 : Below wr.heap.size wr w3 := by rw [← hw3]; exact hb1.alloc hq _
          have hqw : w.heap.size ≤ w3.heap.size := Nat.le_trans hsz st3.size
          have B3 : Below w.heap.size w w3 := hb.trans (st3.mono hsz)
          have HO3 := hid (HO.out.below st3)
          have HX := hid hx
          clear hw3 hb1 PT st3 c0 c1 c2 c3 c4 c5 c6 c7 c8 c9 c10 c11 c12 c13 hx
          generalize w1.heap.size = q at *
          have hq3 : q < w3.heap.size := lt_of_heap R3
          have HR3 := hid R3
          obtain ⟨x1, x2, x3, x4, x5, x6, x7, x8, x9, x10, x11, x0, x12, x13⟩ := row_story R3
          clear R3
          go_wp2_with (first | (at_builtin; refine app_story (l := stories X) (m := [x.s]) (A := Ax) (c := cx) (lo := w.heap.size) _ rfl (.tmp 51) (.tmp 53) (by first | rfl | simp [Act.eval]) (by first | rfl | simp [Act.eval]) (HO3.out.x.alloc _) 1 rfl (arr_oneStory (vb := w3.heap.size) (x := x.s) (by rw [heap_alloc_if, if_pos (by simp)]; rfl)) (by have := HLX.out; simp; omega) (by simp; omega) ?_; intro A4 c4 w4 hown4 hgr4 hloc4; have HO4 := hid ((HO3.out.alloc _).pushX hown4 hgr4 hloc4); have R4 : w4.heap[q]? = _ := (hgr4.block q (by simp; omega) (rowOf_new HO.out.x hq)).trans ((Below.heap_alloc _ _ _ hq3).trans HR3.out); have B4 : Below w.heap.size w w4 := ownBelow (HO3.out.x.alloc _) hgr4 (B3.alloc hqw _) (by simp; omega); have hqw4 := B4.size; have hq4 := lt_of_heap R4; obtain ⟨y1, y2, y3, y4, y5, y6, y7, y8, y9, y10, y11, y0, y12, y13⟩ := row_story R4; clear hown4 hgr4 hloc4 R4 x0 x1 x2 x3 x4 x5 x6 x7 x8 x9 x10 x11 x12 x13) | (at_builtin; refine app_story (l := stories L) (m := [x.s]) (A := Al) (c := cl) (lo := w.heap.size) _ rfl (.tmp 55) (.tmp 57) (by first | rfl | simp [Act.eval]) (by first | rfl | simp [Act.eval]) (HO4.out.l.alloc _) 1 rfl (arr_oneStory (vb := w4.heap.size) (x := x.s) (by rw [heap_alloc_if, if_pos (by simp)]; rfl)) (by have := HLL.out; simp; omega) (by simp; omega) ?_; intro A6 c6' w6 hown6 hgr6 hloc6))
          have B6 : Below w.heap.size w w6 := ownBelow (HO4.out.l.alloc _) hgr6 (B4.alloc hqw4 _) (by simp; omega)
          have O6 := (HO4.out.alloc _).pushL hown6 hgr6 hloc6
          go_meet
          refine ⟨[x], A4, c4, A6, c6', .inr ⟨ha, x, rfl, HX.out⟩, ?_, ?_, ?_, B6⟩
          · rw [stories_app, List.length_append]; rfl
          · rw [stories_app, List.length_append]; rfl
          · rw [stories_app, stories_app]; exact O6
        · go_wp2_with fail
          go_meet
          exact ⟨[], Ax, cx, Al, cl, .inl ⟨by omega, rfl⟩, by rw [List.append_nil], by rw [List.append_nil], by rw [List.append_nil, List.append_nil]; exact HO.out, hb⟩
      case rest =>
        obtain ⟨ox, Ax', cx', Al', cl', hox, rfl, rfl, hO1, hb1⟩ := hcut
        obtain ⟨wa, hwa⟩ : ∃ wa, wa = wc := ⟨_, rfl⟩
        subst hwa
        have HO1 := hid hO1
        have HOX := hid hox
        have HLO : Hid (ox.length ≤ 1) := hid (by rcases hox with ⟨-, rfl⟩ | ⟨-, x, rfl, -⟩ <;> simp)
        clear hO1 hox
        go_upto_if 62 with fail
        by_cases ha : n < vs.length
        · have hlt' : n < (stories vs).length := by rw [stories_len]; exact ha
          obtain ⟨b, off, hA', hB', hcells⟩ := (HB.out.arr.below hb1).story hlt'
          rw [stories_get vs n hlt' ha] at hcells
          obtain ⟨c0, c1, c2, c3, c4, c5, c6, c7, c8, c9, c10, c11, c12, c13⟩ := hcells
          subst hA'
          have hbr : b < wa.heap.size := Nat.lt_of_lt_of_le hB' hb1.size
          have PT := fun W => plain_any vs[n].s ⟨#[98]⟩ (4 * (n : Int) + 1) (by omega) (by omega) W
          unfold storyV at PT
          go_upto_region 13 with (go_at_call 19; refine (PT _).mono ?_; rintro e w1 ⟨hbp, x, hx, rfl⟩)
          generalize hw3 : World.alloc w1 _ = w3
          have hq := hbp.size
          have R3 : w3.heap[w1.heap.size]? = some (.cells x.s.enc.toArray 44 (0, 0)) := by rw [← hw3]; exact (heap_alloc_if _ _ _).trans (if_pos rfl)
          have st3 : Below wa.heap.size wa w3 := by rw [← hw3]; exact hbp.alloc hq _
          have hqw : w.heap.size ≤ w3.heap.size := Nat.le_trans hb1.size st3.size
          have B3 : Below w.heap.size w w3 := hb1.trans (st3.mono hb1.size)
          have HO3 := hid (HO1.out.below st3)
          have HX := hid hx
          clear hw3 hbp PT st3 c0 c1 c2 c3 c4 c5 c6 c7 c8 c9 c10 c11 c12 c13 hx
          generalize w1.heap.size = q at *
          have hq3 : q < w3.heap.size := lt_of_heap R3
          have HR3 := hid R3
          obtain ⟨x1, x2, x3, x4, x5, x6, x7, x8, x9, x10, x11, x0, x12, x13⟩ := row_story R3
          clear R3
          go_wp2_with (first | (at_builtin; refine app_story (l := stories Y) (m := [x.s]) (A := Ay) (c := cy) (lo := w.heap.size) _ rfl (.tmp 71) (.tmp 73) (by first | rfl | simp [Act.eval]) (by first | rfl | simp [Act.eval]) (HO3.out.y.alloc _) 1 rfl (arr_oneStory (vb := w3.heap.size) (x := x.s) (by rw [heap_alloc_if, if_pos (by simp)]; rfl)) (by have := HLY.out; simp; omega) (by simp; omega) ?_; intro A4 c4 w4 hown4 hgr4 hloc4; have HO4 := hid ((HO3.out.alloc _).pushY hown4 hgr4 hloc4); have R4 : w4.heap[q]? = _ := (hgr4.block q (by simp; omega) (rowOf_new HO1.out.y hq)).trans ((Below.heap_alloc _ _ _ hq3).trans HR3.out); have B4 : Below w.heap.size w w4 := ownBelow (HO3.out.y.alloc _) hgr4 (B3.alloc hqw _) (by simp; omega); have hqw4 := B4.size; have hq4 := lt_of_heap R4; obtain ⟨y1, y2, y3, y4, y5, y6, y7, y8, y9, y10, y11, y0, y12, y13⟩ := row_story R4; clear hown4 hgr4 hloc4 R4 x0 x1 x2 x3 x4 x5 x6 x7 x8 x9 x10 x11 x12 x13) | (at_builtin; refine app_story (l := stories (L ++ ox)) (m := [x.s]) (A := Al') (c := cl') (lo := w.heap.size) _ rfl (.tmp 75) (.tmp 77) (by first | rfl | simp [Act.eval]) (by first | rfl | simp [Act.eval]) (HO4.out.l.alloc _) 1 rfl (arr_oneStory (vb := w4.heap.size) (x := x.s) (by rw [heap_alloc_if, if_pos (by simp)]; rfl)) (by have h1 := HLL.out; have h2 := HLO.out; rw [stories_len] at h1 ⊢; simp; omega) (by simp; omega) ?_; intro A6 c6' w6 hown6 hgr6 hloc6))
          have B6 : Below w.heap.size w w6 := ownBelow (HO4.out.l.alloc _) hgr6 (B4.alloc hqw4 _) (by simp; omega)
          have O6 := (HO4.out.alloc _).pushL hown6 hgr6 hloc6
          have HN := hid (HD.out.next HOX.out (.inr ⟨ha, x, rfl, HX.out⟩))
          refine ⟨⟨n + 1, X ++ ox, Y ++ [x], L ++ ox ++ [x], Ax', cx', A4, c4, A6, c6', by omega, by go_num, rfl, ?_, ?_, ?_, HN.out, B6⟩, by simp [intOf]; omega⟩
          · rw [stories_app Y, List.length_append]; rfl
          · rw [stories_app (L ++ ox), List.length_append]; rfl
          · rw [stories_app Y, stories_app (L ++ ox)]; exact O6
        · go_wp2_with fail
          have HN := hid (HD.out.next HOX.out (.inl ⟨by omega, rfl⟩))
          rw [List.append_nil, List.append_nil] at HN
          exact ⟨⟨n + 1, X ++ ox, Y, L ++ ox, Ax', cx', Ay, cy, Al', cl', by omega, by go_num, rfl, rfl, rfl, HO1.out, HN.out, hb1⟩, by simp [intOf]; omega⟩
    · obtain rfl : n = 5 := by omega
      have hall := HD.out.all
      have hX : ∀ z ∈ X, (∃ k key val code fd vl bg en, z = flatI k key val code fd vl bg en) ∧ countsB z.s = true ∧ 0 ≤ z.s.bg ∧ z.s.bg < z.s.en := fun z hz => hall z (HD.out.perm.mem_iff.1 (by simp [hz]))
      have hY : ∀ z ∈ Y, (∃ k key val code fd vl bg en, z = flatI k key val code fd vl bg en) ∧ countsB z.s = true ∧ 0 ≤ z.s.bg ∧ z.s.bg < z.s.en := fun z hz => hall z (HD.out.perm.mem_iff.1 (by simp [hz]))
      have lX : X.length ≤ 5 := by rw [HD.out.lx]; omega
      have lY : Y.length ≤ 5 := by rw [HD.out.ly]; omega
      have lL : L.length ≤ 12 := by have := HD.out.perm.length_eq; rw [List.length_append] at this; omega
      have GX : ∀ W, Below wr.heap.size wr W → Calls Tryd.prog 16 #[.agg #[.slice none 0 0, .slice none 0 0], .slice Ax (stories X).length cx] W fun e w' => ∃ r : Bool, e = .returned (.tuple #[.bool r, .int .i64 0]) ∧ Below W.heap.size W w' ∧ (r = true ↔ LegalS X ⟨[], []⟩) := fun W hW =>
        legal_rise hX HD.out.px (by omega) Ax cx W (((HO.out.x.arr Story.enc_len).below hW).more hW.size) (by rw [← stories_len]; exact HO.out.x.len) HO.out.x.max (HT.out.up (hb.trans (hW.mono hsz)))
      have GY : ∀ W, Below wr.heap.size wr W → Calls Tryd.prog 16 #[.agg #[.slice none 0 0, .slice none 0 0], .slice Ay (stories Y).length cy] W fun e w' => ∃ r : Bool, e = .returned (.tuple #[.bool r, .int .i64 0]) ∧ Below W.heap.size W w' ∧ (r = true ↔ LegalS Y ⟨[], []⟩) := fun W hW =>
        legal_rise hY HD.out.py (by omega) Ay cy W (((HO.out.y.arr Story.enc_len).below hW).more hW.size) (by rw [← stories_len]; exact HO.out.y.len) HO.out.y.max (HT.out.up (hb.trans (hW.mono hsz)))
      have GL : ∀ W, Below wr.heap.size wr W → Calls Tryd.prog 16 #[.agg #[.slice none 0 0, .slice none 0 0], .slice Al (stories L).length cl] W fun e w' => ∃ r : Bool, e = .returned (.tuple #[.bool r, .int .i64 0]) ∧ Below W.heap.size W w' ∧ (r = true ↔ LegalS L ⟨[], []⟩) := fun W hW =>
        legal_rise hall HD.out.pl lL Al cl W (((HO.out.l.arr Story.enc_len).below hW).more hW.size) (by rw [← stories_len]; exact HO.out.l.len) HO.out.l.max (HT.out.up (hb.trans (hW.mono hsz)))
      have HLAW := hid (HD.out.law ⟨[], []⟩)
      clear hall hX hY lX lY lL hn5 hlt
      go_wp2_with fail
      refine (GX _ (Below.refl _ _)).mono ?_
      rintro e w3 ⟨p, rfl, b3, hp⟩
      have HPX := hid hp
      clear hp
      go_wp2_with fail
      refine (GY _ b3).mono ?_
      rintro e w4 ⟨q, rfl, b4, hq⟩
      have st4 := b3.trans (b4.mono b3.size)
      have HQY := hid hq
      clear hq b3 b4
      go_wp2_with fail
      refine (GL _ st4).mono ?_
      rintro e w5 ⟨r, rfl, b5, hr⟩
      have bw5 : Below w.heap.size w w5 := hb.trans ((st4.trans (b5.mono st4.size)).mono hsz)
      have hrr : r = (p && q) := by
        rw [Bool.eq_iff_iff, hr, HLAW.out, Bool.and_eq_true, HPX.out, HQY.out]
      clear hr b5 st4 HPX HQY HLAW GX GY GL
      subst hrr
      cases p <;> cases q
      all_goals
        go_wp2_with (go_at_call 11; refine (AW _ bw5).mono ?_; rintro e w6 ⟨rfl, hb6⟩)
        go_ret
        exact ⟨rfl, bw5.trans (hb6.mono bw5.size)⟩
end Go.Proofs.YtamcehfcjcmpmaaDoor
