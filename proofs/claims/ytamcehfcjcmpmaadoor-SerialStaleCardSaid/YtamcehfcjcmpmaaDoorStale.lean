/- The statement SerialStale: the walk. -/
import Derived.Test.YtamcehfcjcmpmaaDoorSrU
import Derived.Test.YtamcehfcjcmpmaaDoorLow
namespace Go.Proofs.YtamcehfcjcmpmaaDoor
open Go.RowKit

/-- a put and a get behind it -/
def stA (key val : ByteArray) : Item := flatI 2 key val 0 false ByteArray.empty 1 2
def stB (key told : ByteArray) (fd : Bool) (g : Int) : Item := flatI 1 key ByteArray.empty 0 fd told g 200
theorem stale_pair (key val told : ByteArray) (fd : Bool) (g : Int) (h0 : key.toList.isEmpty = false) (h1 : key.size ≤ 16) (h2 : val.size ≤ 400) (hg : 3 ≤ g) (hg2 : g < 200) (W : World) (b : Nat) (h : W.heap[b]? = some (.cells ((stA key val).s.enc ++ (stB key told fd g).s.enc).toArray 44 (0, 0))) (htab : Tab W.heap.size W) :
    Calls Tryd.prog 16 #[.agg #[.slice none 0 0, .slice none 0 0], .slice (some ⟨b, 0, none⟩) 2 2] W (GivesB2 (fd && told.toList == val.toList) W) := by
  refine (legal_pair (x := stA key val) (y := stB key told fd g) ⟨_, _, _, _, _, _, _, _, rfl⟩ ⟨_, _, _, _, _, _, _, _, rfl⟩ W b h (by simp) ⟨[], []⟩ none 0 none 0 (shIn_nil W _) small_nil htab).mono fun e w' hG => ?_
  have hmay : MayS (stories [stA key val, stB key told fd g]) := may_two (by show (0 : Int) ≤ 1; omega) (by show (1 : Int) < g; omega) (.inr (by show (1 : Int) < 2; omega)) (.inr (by show g < 200; omega))
  have hp : (picks [stA key val, stB key told fd g]).length ≤ 12 := Nat.le_trans (picks_len _) (by simp)
  have hl := stale_law key val told fd g h0 h1 h2 hg
  cases hr : (fd && told.toList == val.toList) with
  | true => exact hG.yes rfl hmay hp (hl.2 hr)
  | false => exact hG.not rfl hmay hp (fun h => by rw [hl.1 h] at hr; cases hr)
set_option maxHeartbeats 2000000 in
set_option maxRecDepth 100000 in
theorem serialStale_any (key val told : ByteArray) (fd : Bool) (gap : Int) (w : World) (htab : Tab w.heap.size w) :
    Calls Tryd.prog 4 #[.string key, .string val, .string told, .bool fd, .int .i64 gap] w fun e w' => e = .returned (.bool true) ∧ Below w.heap.size w w' := by
  have HT := hid htab
  clear htab
  have AW : ∀ W, Below w.heap.size w W → Calls Tryd.prog 11 #[] W fun e w' => e = .returned (.bool true) ∧ Below W.heap.size W w' := fun W hW => awake25 W (HT.out.up hW)
  by_cases hgood : key.size ≤ 16 ∧ key.toList ≠ [] ∧ val.size ≤ 400 ∧ told.size ≤ 400
  case neg =>
    by_cases h1 : (16 : Int) < (key.size : Int)
    · go_enter Tryd.func4, Tryd.ntmps4
      go_wp2_with (go_at_call 11; refine (AW _ (Below.refl _ _)).mono ?_; rintro e w1 ⟨rfl, hb1⟩)
      go_ret
      exact ⟨rfl, hb1⟩
    by_cases h2 : key.toList = []
    · go_enter Tryd.func4, Tryd.ntmps4
      go_wp2_with (go_at_call 11; refine (AW _ (Below.refl _ _)).mono ?_; rintro e w1 ⟨rfl, hb1⟩)
      go_ret
      exact ⟨rfl, hb1⟩
    by_cases h3 : (400 : Int) < (val.size : Int)
    · go_enter Tryd.func4, Tryd.ntmps4
      go_wp2_with (go_at_call 11; refine (AW _ (Below.refl _ _)).mono ?_; rintro e w1 ⟨rfl, hb1⟩)
      go_ret
      exact ⟨rfl, hb1⟩
    have h4 : (400 : Int) < (told.size : Int) := by
      have : ¬ (told.size ≤ 400) := fun h => hgood ⟨by omega, h2, by omega, h⟩
      omega
    clear hgood
    go_enter Tryd.func4, Tryd.ntmps4
    go_wp2_with (go_at_call 11; refine (AW _ (Below.refl _ _)).mono ?_; rintro e w1 ⟨rfl, hb1⟩)
    go_ret
    exact ⟨rfl, hb1⟩
  obtain ⟨h1, h2, h3, h4⟩ := hgood
  have he : key.toList.isEmpty = false := by simp [h2]
  have g1 : ¬ (16 : Int) < (key.size : Int) := by omega
  have g3 : ¬ (400 : Int) < (val.size : Int) := by omega
  have g4 : ¬ (400 : Int) < (told.size : Int) := by omega
  obtain ⟨g, hg⟩ : ∃ g : Int, g = 3 + low gap 100 := ⟨_, rfl⟩
  have hg3 : 3 ≤ g := by have := low_lo gap 100 (by decide); omega
  have hg2 : g < 200 := by have := low_hi gap 100 (by decide); omega
  have P1 := put25 key val
  have G1 := get25 key
  have L0 : ∀ W, Calls Tryd.prog 15 #[.int .i64 gap, .int .i64 100] W fun e w' => e = .returned (.int .i64 (low gap 100)) ∧ W = w' := fun W => low_any gap 100 (by decide) (by decide) W
  have L1 : ∀ (W : World) (b : Nat), Below w.heap.size w W → W.heap[b]? = some (.cells ((stA key val).s.enc ++ (stB key told fd g).s.enc).toArray 44 (0, 0)) → Calls Tryd.prog 16 #[.agg #[.slice none 0 0, .slice none 0 0], .slice (some ⟨b, 0, none⟩) 2 2] W (GivesB2 (fd && told.toList == val.toList) W) := fun W b hW h =>
    stale_pair key val told fd g (by simp [h2]) h1 h3 hg3 hg2 W b h (HT.out.up hW)
  have H1 := hid h1
  have H3 := hid h3
  have H4 := hid h4
  have HG2 := hid hg2
  have HG3 := hid hg3
  clear h1 h3 h4 hg2 hg3
  generalize hlow : low gap 100 = lo at L0 hg
  have HLOW := hid hlow
  have hw0 : wrap64 (3 + lo) = g := by
    rw [hg]
    have := HG2.out; have := HG3.out
    exact Go.IntWalk.wrap64_in _ ⟨by omega, by omega⟩
  have HHG := hid hg
  clear hlow hg
  go_enter Tryd.func4, Tryd.ntmps4
  go_wp2_with fail
  refine (P1 _).mono ?_
  rintro e w1 ⟨rfl, hb1⟩
  go_wp2_with fail
  refine (G1 _).mono ?_
  rintro e w2 ⟨rfl, hb2⟩
  go_wp2_with fail
  refine (L0 _).mono ?_
  rintro e w2' ⟨rfl, rfl⟩
  go_upto_region 5 with fail
  generalize hw3 : World.alloc w2 _ = w3
  have z1 := hb1.size
  have z2 : w1.heap.size + 1 ≤ w2.heap.size := by have := hb2.size; simpa using this
  have z3 : w3.heap.size = w2.heap.size + 1 := by rw [← hw3]; simp
  have ra : w3.heap[w1.heap.size]? = some (.cells (stA key val).s.enc.toArray 44 (0, 0)) := by
    rw [← hw3]
    exact (Below.heap_alloc _ _ _ (by omega)).trans ((hb2.block _ (by simp)).trans ((heap_alloc_if _ _ _).trans (if_pos rfl)))
  have rb : w3.heap[w2.heap.size]? = some (.cells (stB key told fd g).s.enc.toArray 44 (0, 0)) := by
    rw [← hw3]
    exact (heap_alloc_if _ _ _).trans (if_pos rfl)
  have b3 : Below w.heap.size w w3 := by rw [← hw3]; exact ((hb1.alloc z1 _).trans (hb2.mono (by simp; omega))).alloc (by omega) _
  clear hw3 hb1 hb2 z1 z2 z3
  obtain ⟨a1, a2, a3, a4, a5, a6, a7, a8, a9, a10, a11, a0, a12, a13⟩ := row_story ra
  obtain ⟨x1, x2, x3, x4, x5, x6, x7, x8, x9, x10, x11, x0, x12, x13⟩ := row_story rb
  have la := lt_of_heap ra
  have lb := lt_of_heap rb
  clear ra rb L0 P1 G1 hw0
  go_upto_region 6 with (go_at_call 16; refine (L1 _ w3.heap.size (b3.alloc b3.size _) (by rw [heap_alloc_if, if_pos rfl]; rfl)).mono ?_; rintro e w5 ⟨rfl, hb5⟩)
  have b5 : Below w.heap.size w w5 := (b3.alloc b3.size _).trans (hb5.mono (by have := b3.size; simp; omega))
  clear a0 a1 a2 a3 a4 a5 a6 a7 a8 a9 a10 a11 a12 a13 x0 x1 x2 x3 x4 x5 x6 x7 x8 x9 x10 x11 x12 x13 hb5 la lb L1
  cases fd with
  | false =>
    rw [Bool.false_and]
    go_wp2_with (go_at_call 11; refine (AW _ b5).mono ?_; rintro e w6 ⟨rfl, hb6⟩)
    go_ret
    exact ⟨rfl, b5.trans (hb6.mono b5.size)⟩
  | true =>
    rw [Bool.true_and]
    cases ht2 : (told.toList == val.toList) with
    | true =>
      go_wp2_with (go_at_call 11; refine (AW _ b5).mono ?_; rintro e w6 ⟨rfl, hb6⟩)
      go_ret
      exact ⟨rfl, b5.trans (hb6.mono b5.size)⟩
    | false =>
      go_wp2_with (go_at_call 11; refine (AW _ b5).mono ?_; rintro e w6 ⟨rfl, hb6⟩)
      go_ret
      exact ⟨rfl, b5.trans (hb6.mono b5.size)⟩
end Go.Proofs.YtamcehfcjcmpmaaDoor
