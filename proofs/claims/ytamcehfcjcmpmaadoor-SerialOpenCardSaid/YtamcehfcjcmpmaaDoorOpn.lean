/- The statement SerialOpen: the walk. -/
import Derived.Test.YtamcehfcjcmpmaaDoorSrU
import Derived.StillTailTactics
import Derived.Deep.DeepCutAuto
namespace Go.Proofs.YtamcehfcjcmpmaaDoor
open Go.RowKit

/-- a put that has not ended, and a get behind it -/
def opA (key val : ByteArray) : Item := flatI 2 key val 0 false ByteArray.empty 1 (-1)
def opB (key told : ByteArray) : Item := flatI 1 key ByteArray.empty 0 true told 3 4
theorem opB_put {W : World} {p : Nat} {key told : ByteArray} (t : ByteArray) (h : W.heap[p]? = some (.cells (opB key told).s.enc.toArray 44 (0, 0))) : (W.setCell ⟨p, 8, none⟩ (.string t)).heap[p]? = some (.cells (opB key t).s.enc.toArray 44 (0, 0)) := heap_setCell_same _ p 8 _ _ (.string t) h
/-- the store, and the get -/
structure OpMid (p : Nat) (key was told : ByteArray) (q : Nat) (W : World) : Prop where
  prs : W.heap[p]? = some (.cells #[.string key, .string was] 53 (0, 0))
  box : W.heap[p + 1]? = some (.cells #[.slice (some ⟨p, 0, none⟩) 1 1, .slice none 0 0] 25 (0, 0))
  get : W.heap[q]? = some (.cells (opB key told).s.enc.toArray 44 (0, 0))
theorem OpMid.below {p : Nat} {key was told : ByteArray} {q : Nat} {W W' : World} (h : OpMid p key was told q W) (hb : Below W.heap.size W W') : OpMid p key was told q W' :=
  ⟨(hb.block _ (lt_of_heap h.prs)).trans h.prs, (hb.block _ (lt_of_heap h.box)).trans h.box, (hb.block _ (lt_of_heap h.get)).trans h.get⟩
theorem OpMid.put {p : Nat} {key was told : ByteArray} {q : Nat} {W : World} (h : OpMid p key was told q W) (t : ByteArray) : OpMid p key was t q (W.setCell ⟨q, 8, none⟩ (.string t)) := by
  have h1 : p ≠ q := by rintro rfl; have := h.prs; rw [h.get] at this; cases this
  have h2 : p + 1 ≠ q := by rintro rfl; have := h.box; rw [h.get] at this; cases this
  exact ⟨(Below.heap_setCell _ _ _ _ h1).trans h.prs, (Below.heap_setCell _ _ _ _ h2).trans h.box, opB_put t h.get⟩
theorem OpMid.cells {p : Nat} {key was told : ByteArray} {q : Nat} {W : World} (h : OpMid p key was told q W) : W.cell? ⟨p + 1, 0, none⟩ = some (.slice (some ⟨p, 0, none⟩) 1 1) ∧ W.cell? ⟨p + 1, 1, none⟩ = some (.slice none 0 0) ∧ p + 1 < W.heap.size ∧ q < W.heap.size :=
  ⟨cell_of_row W _ 0 _ _ _ h.box, cell_of_row W _ 1 _ _ _ h.box, lt_of_heap h.box, lt_of_heap h.get⟩
theorem open_pair (key val was told : ByteArray) (h0 : key.toList.isEmpty = false) (h1 : key.size ≤ 16) (h2 : val.size ≤ 400) (h3 : was.size ≤ 400) (r : Bool) (hr : r = true ↔ told = was ∨ told = val) (p q : Nat) (V W : World) (hV : OpMid p key was told q V) (hVW : Below V.heap.size V W) (b : Nat) (h : W.heap[b]? = some (.cells ((opA key val).s.enc ++ (opB key told).s.enc).toArray 44 (0, 0))) (htab : Tab W.heap.size W) :
    Calls Tryd.prog 16 #[.agg #[.slice (some ⟨p, 0, none⟩) 1 1, .slice none 0 0], .slice (some ⟨b, 0, none⟩) 2 2] W (GivesB2 r W) := by
  have hW := hV.below hVW
  have hsh : ShIn W W.heap.size (some ⟨p, 0, none⟩) 1 none 0 ⟨[⟨key, was⟩], []⟩ := by
    refine ⟨Arr.of_cells Pair.enc_len (lt_of_heap hW.prs) fun j u hu => ?_, by simp, by simp, Arr.nil, by simp, by simp⟩
    rw [Nat.zero_add, cell_of_row W p j _ _ _ hW.prs, ← Array.getElem?_toList]
    simpa [Pair.enc] using hu
  have hsm : Small ⟨[⟨key, was⟩], []⟩ 0 := ⟨by simp, by simp, fun x hx => by
    simp only [List.mem_cons, List.not_mem_nil, or_false] at hx
    subst hx
    exact ⟨by show key.size ≤ 1000; omega, by show was.size ≤ 1000; omega⟩, by simp⟩
  refine (legal_pair (x := opA key val) (y := opB key told) ⟨_, _, _, _, _, _, _, _, rfl⟩ ⟨_, _, _, _, _, _, _, _, rfl⟩ W b h (by simp) ⟨[⟨key, was⟩], []⟩ (some ⟨p, 0, none⟩) 1 none 0 hsh hsm htab).mono fun e w' hG => ?_
  have hmay : MayS (stories [opA key val, opB key told]) := may_two (by show (0 : Int) ≤ 1; omega) (by show (1 : Int) < 3; omega) (.inl rfl) (.inr (by show (3 : Int) < 4; omega))
  have hp : (picks [opA key val, opB key told]).length ≤ 12 := Nat.le_trans (picks_len _) (by simp)
  have hl := open_get key val was told h0 h1 h2
  cases r with
  | true => exact hG.yes rfl hmay hp (hl.2 (hr.1 rfl))
  | false => exact hG.not rfl hmay hp (fun h => by have := hr.2 (hl.1 h); cases this)
theorem OpMid.held {p : Nat} {key was told : ByteArray} {q : Nat} {V : World} (h : OpMid p key was told q V) {W : World} (hb : Below V.heap.size V W) : W.cell? ⟨p + 1, 0, none⟩ = some (.slice (some ⟨p, 0, none⟩) 1 1) ∧ W.cell? ⟨p + 1, 1, none⟩ = some (.slice none 0 0) ∧ W.cell? ⟨q, 0, none⟩ = some (.int .i64 0) ∧ W.cell? ⟨q, 1, none⟩ = some (.int .i64 1) ∧ W.cell? ⟨q, 2, none⟩ = some (.string key) ∧ W.cell? ⟨q, 3, none⟩ = some (.string ByteArray.empty) ∧ W.cell? ⟨q, 4, none⟩ = some (.string ByteArray.empty) ∧ W.cell? ⟨q, 5, none⟩ = some (.slice none 0 0) ∧ W.cell? ⟨q, 6, none⟩ = some (.int .i64 0) ∧ W.cell? ⟨q, 7, none⟩ = some (.bool true) ∧ W.cell? ⟨q, 8, none⟩ = some (.string told) ∧ W.cell? ⟨q, 9, none⟩ = some (.slice none 0 0) ∧ W.cell? ⟨q, 10, none⟩ = some (.slice none 0 0) ∧ W.cell? ⟨q, 11, none⟩ = some (.int .u64 0) ∧ W.cell? ⟨q, 12, none⟩ = some (.int .i64 3) ∧ W.cell? ⟨q, 13, none⟩ = some (.int .i64 4) := by
  have h' := h.below hb
  obtain ⟨x1, x2, x3, x4, x5, x6, x7, x8, x9, x10, x11, x0, x12, x13⟩ := row_story h'.get
  exact ⟨cell_of_row W _ 0 _ _ _ h'.box, cell_of_row W _ 1 _ _ _ h'.box, x0, x1, x2, x3, x4, x5, x6, x7, x8, x9, x10, x11, x12, x13⟩
theorem told_other {val was : ByteArray} : ¬ (val ++ was ++ ⟨#[120]⟩ = was ∨ val ++ was ++ ⟨#[120]⟩ = val) := by
  rintro (h | h)
  · have := congrArg ByteArray.size h
    simp [ByteArray.size_append] at this
    have e : (ByteArray.mk #[120]).size = 1 := rfl
    omega
  · have := congrArg ByteArray.size h
    simp [ByteArray.size_append] at this
    have e : (ByteArray.mk #[120]).size = 1 := rfl
    omega
set_option maxHeartbeats 4000000 in
set_option maxRecDepth 100000 in
theorem serialOpen_any (key val was : ByteArray) (new : Bool) (w : World) (htab : Tab w.heap.size w) :
    Calls Tryd.prog 5 #[.string key, .string val, .string was, .bool new] w fun e w' => e = .returned (.bool true) ∧ Below w.heap.size w w' := by
  have HT := hid htab
  clear htab
  have AW : ∀ W, Below w.heap.size w W → Calls Tryd.prog 11 #[] W fun e w' => e = .returned (.bool true) ∧ Below W.heap.size W w' := fun W hW => awake25 W (HT.out.up hW)
  by_cases hgood : key.size ≤ 16 ∧ key.toList ≠ [] ∧ val.size ≤ 400 ∧ was.size ≤ 400
  case neg =>
    by_cases h1 : (16 : Int) < (key.size : Int)
    · go_enter Tryd.func5, Tryd.ntmps5
      go_wp2_with (go_at_call 11; refine (AW _ (Below.refl _ _)).mono ?_; rintro e w1 ⟨rfl, hb1⟩)
      go_ret
      exact ⟨rfl, hb1⟩
    by_cases h2 : key.toList = []
    · go_enter Tryd.func5, Tryd.ntmps5
      go_wp2_with (go_at_call 11; refine (AW _ (Below.refl _ _)).mono ?_; rintro e w1 ⟨rfl, hb1⟩)
      go_ret
      exact ⟨rfl, hb1⟩
    by_cases h3 : (400 : Int) < (val.size : Int)
    · go_enter Tryd.func5, Tryd.ntmps5
      go_wp2_with (go_at_call 11; refine (AW _ (Below.refl _ _)).mono ?_; rintro e w1 ⟨rfl, hb1⟩)
      go_ret
      exact ⟨rfl, hb1⟩
    have h4 : (400 : Int) < (was.size : Int) := by
      have : ¬ (was.size ≤ 400) := fun h => hgood ⟨by omega, h2, by omega, h⟩
      omega
    clear hgood
    go_enter Tryd.func5, Tryd.ntmps5
    go_wp2_with (go_at_call 11; refine (AW _ (Below.refl _ _)).mono ?_; rintro e w1 ⟨rfl, hb1⟩)
    go_ret
    exact ⟨rfl, hb1⟩
  obtain ⟨h1, h2, h3, h4⟩ := hgood
  have he : key.toList.isEmpty = false := by simp [h2]
  have g1 : ¬ (16 : Int) < (key.size : Int) := by omega
  have g3 : ¬ (400 : Int) < (val.size : Int) := by omega
  have g4 : ¬ (400 : Int) < (was.size : Int) := by omega
  obtain ⟨p, hp⟩ : ∃ p, p = w.heap.size := ⟨_, rfl⟩
  have P1 := put25 key val
  have G1 := get25 key
  have L1 : ∀ (told : ByteArray) (r : Bool), (r = true ↔ told = was ∨ told = val) → ∀ (q : Nat) (V W : World), OpMid p key was told q V → Below w.heap.size w V → Below V.heap.size V W → ∀ b, W.heap[b]? = some (.cells ((opA key val).s.enc ++ (opB key told).s.enc).toArray 44 (0, 0)) →
      Calls Tryd.prog 16 #[.agg #[.slice (some ⟨p, 0, none⟩) 1 1, .slice none 0 0], .slice (some ⟨b, 0, none⟩) 2 2] W (GivesB2 r W) := fun told r hr q V W hV hwV hVW b h =>
    open_pair key val was told he h1 h3 h4 r hr p q V W hV hVW b h (HT.out.up (hwV.trans (hVW.mono hwV.size)))
  have H2 := hid h2
  clear h1 h2 h3 h4
  have HP := hid hp
  clear hp
  go_enter Tryd.func5, Tryd.ntmps5
  go_upto_region 4 with fail
  generalize hw1 : World.alloc (World.alloc w _) _ = w1
  have z1 : w1.heap.size = w.heap.size + 2 := by rw [← hw1]; simp
  have r1 : w1.heap[w.heap.size]? = some (.cells #[.string key, .string was] 53 (0, 0)) := by rw [← hw1]; exact (Below.heap_alloc _ _ _ (by simp)).trans ((heap_alloc_if _ _ _).trans (if_pos rfl))
  have r2 : w1.heap[w.heap.size + 1]? = some (.cells #[.slice (some ⟨w.heap.size, 0, none⟩) 1 1, .slice none 0 0] 25 (0, 0)) := by rw [← hw1]; exact (heap_alloc_if _ _ _).trans (by rw [if_pos (by simp)])
  have b1 : Below w.heap.size w w1 := by rw [← hw1]; exact ((Below.refl _ _).alloc (Nat.le_refl _) _).alloc (by simp) _
  clear hw1
  go_upto_region 5 with (go_at_call 18; refine (G1 _).mono ?_; rintro e w2 ⟨rfl, hb2⟩)
  generalize hw3 : World.alloc w2 _ = w3
  have z2 := hb2.size
  have M3 : OpMid w.heap.size key was was w2.heap.size w3 := by
    rw [← hw3]
    exact ⟨(Below.heap_alloc _ _ _ (by omega)).trans ((hb2.block _ (by omega)).trans r1), (Below.heap_alloc _ _ _ (by omega)).trans ((hb2.block _ (by omega)).trans r2), (heap_alloc_if _ _ _).trans (if_pos rfl)⟩
  have b3 : Below w.heap.size w w3 := by rw [← hw3]; exact (b1.trans (hb2.mono (by omega))).alloc (by omega) _
  rw [HP.out] at L1
  have hq : w.heap.size ≤ w2.heap.size := by omega
  generalize w2.heap.size = q at M3 hq ⊢
  clear hw3 hb2 z1 z2 r1 r2 b1 G1 HP
  obtain ⟨-, -, -, lq⟩ := M3.cells
  have f8 := frozen_of_row w3 _ 8 _ _ M3.get
  have c8 := cell_of_row w3 _ 8 _ _ _ M3.get
  have HM3 := hid M3
  clear M3
  obtain ⟨told, htold⟩ : ∃ told, told = if new then val else was := ⟨_, rfl⟩
  have HTO := hid htold
  clear htold
  have HB3 := hid b3
  clear b3
  have L1T := fun (told : ByteArray) (h : told = was ∨ told = val) => L1 told true ⟨fun _ => h, fun _ => rfl⟩
  have L1F := fun (told : ByteArray) (h : ¬ (told = was ∨ told = val)) => L1 told false ⟨fun h' => by (cases h'), fun h' => absurd h' h⟩
  clear L1
  go_upto_if 43 with fail
  go_cut [10] (fun v10 wx => v10 = .pointer (some ⟨q, 0, none⟩) ∧ OpMid w.heap.size key was told q wx ∧ Below w.heap.size w wx)
  case first =>
    cases new with
    | false =>
      go_wp2_with fail
      go_meet
      have e : told = was := by rw [HTO.out]; rfl
      rw [e]
      exact ⟨rfl, HM3.out, HB3.out⟩
    | true =>
      go_wp2_with fail
      go_meet
      have e : told = val := by rw [HTO.out]; rfl
      rw [e]
      exact ⟨rfl, HM3.out.put val, HB3.out.setCell hq _⟩
  obtain ⟨rfl, hM4, hb4⟩ := hcut
  have ht : told = was ∨ told = val := by rw [HTO.out]; cases new <;> simp
  have HT1 := hid ht
  have HM4 := hid hM4
  have HB4 := hid hb4
  obtain ⟨l1, l2⟩ : w.heap.size + 1 < wc.heap.size ∧ q < wc.heap.size := hM4.cells.2.2
  clear HTO HM3 HB3 f8 c8 lq ht hM4 hb4
  go_upto_region 7 with fail
  go_region_held3 (fun W => W.cell? ⟨w.heap.size + 1, 0, none⟩ = some (.slice (some ⟨w.heap.size, 0, none⟩) 1 1) ∧ W.cell? ⟨w.heap.size + 1, 1, none⟩ = some (.slice none 0 0) ∧ W.cell? ⟨q, 0, none⟩ = some (.int .i64 0) ∧ W.cell? ⟨q, 1, none⟩ = some (.int .i64 1) ∧ W.cell? ⟨q, 2, none⟩ = some (.string key) ∧ W.cell? ⟨q, 3, none⟩ = some (.string ByteArray.empty) ∧ W.cell? ⟨q, 4, none⟩ = some (.string ByteArray.empty) ∧ W.cell? ⟨q, 5, none⟩ = some (.slice none 0 0) ∧ W.cell? ⟨q, 6, none⟩ = some (.int .i64 0) ∧ W.cell? ⟨q, 7, none⟩ = some (.bool true) ∧ W.cell? ⟨q, 8, none⟩ = some (.string told) ∧ W.cell? ⟨q, 9, none⟩ = some (.slice none 0 0) ∧ W.cell? ⟨q, 10, none⟩ = some (.slice none 0 0) ∧ W.cell? ⟨q, 11, none⟩ = some (.int .u64 0) ∧ W.cell? ⟨q, 12, none⟩ = some (.int .i64 3) ∧ W.cell? ⟨q, 13, none⟩ = some (.int .i64 4)) (first | exact OpMid.held (V := wc) HM4.out (by repeat (first | with_reducible exact Below.refl _ _ | with_reducible assumption | with_reducible refine Below.drew ?_ | with_reducible refine below_drewN ?_ _ | with_reducible refine Below.alloc ?_ (by first | omega | (simp; done) | (simp; omega)) _ | with_reducible refine Below.setCell ?_ (by first | omega | (simp; done) | (simp; omega)) _)) | go_keep) (first | (go_at_call 17; refine (P1 _).mono ?_; rintro e wP ⟨rfl, hbP⟩; have stP : Below wc.heap.size wc wP := (by refine Below.trans ?_ (hbP.mono ?_); exact (by repeat (first | with_reducible exact Below.refl _ _ | with_reducible assumption | with_reducible refine Below.drew ?_ | with_reducible refine below_drewN ?_ _ | with_reducible refine Below.alloc ?_ (by first | omega | (simp; done) | (simp; omega)) _ | with_reducible refine Below.setCell ?_ (by first | omega | (simp; done) | (simp; omega)) _)); (first | exact Nat.le_refl _ | (simp; done))); have sP := stP.size) | (go_at_call 16; refine (L1T told HT1.out q wc _ HM4.out HB4.out ?_ _ ?_).mono ?_; (exact (by repeat (first | with_reducible exact Below.refl _ _ | with_reducible assumption | with_reducible refine Below.drew ?_ | with_reducible refine below_drewN ?_ _ | with_reducible refine Below.alloc ?_ (by first | omega | (simp; done) | (simp; omega)) _ | with_reducible refine Below.setCell ?_ (by first | omega | (simp; done) | (simp; omega)) _))); (first | (rw [heap_alloc_if, if_pos rfl]; rfl; done) | (show (World.alloc _ _).heap[_]? = _; rw [heap_alloc_if, if_pos (by simp)]; rfl)); rintro e wL ⟨rfl, hbL⟩; have stL : Below wc.heap.size wc wL := (by refine Below.trans ?_ (hbL.mono ?_); exact (by repeat (first | with_reducible exact Below.refl _ _ | with_reducible assumption | with_reducible refine Below.drew ?_ | with_reducible refine below_drewN ?_ _ | with_reducible refine Below.alloc ?_ (by first | omega | (simp; done) | (simp; omega)) _ | with_reducible refine Below.setCell ?_ (by first | omega | (simp; done) | (simp; omega)) _)); (first | exact stP.size | (simp; exact stP.size) | (simp; have := stP.size; omega)))))
  have M5 : OpMid w.heap.size key was told q wL := HM4.out.below stL
  have B5 : Below w.heap.size w wL := HB4.out.trans (stL.mono HB4.out.size)
  have f8 := frozen_of_row wL _ 8 _ _ M5.get
  have c8 := cell_of_row wL _ 8 _ _ _ M5.get
  obtain ⟨k1, k2⟩ : w.heap.size + 1 < wL.heap.size ∧ q < wL.heap.size := M5.cells.2.2
  have HM5 := hid M5
  have HB5 := hid B5
  clear M5 B5 hbL stL stP sP hbP l1 l2
  go_upto_region 9 with fail
  obtain ⟨w6, hw6⟩ : ∃ w6, w6 = wL.setCell ⟨q, 8, none⟩ (.string (val ++ was ++ ⟨#[120]⟩)) := ⟨_, rfl⟩
  rw [← hw6]
  have M6 : OpMid w.heap.size key was (val ++ was ++ ⟨#[120]⟩) q w6 := by rw [hw6]; exact HM5.out.put _
  have B6 : Below w.heap.size w w6 := by rw [hw6]; exact HB5.out.setCell hq _
  obtain ⟨l1, l2⟩ : w.heap.size + 1 < w6.heap.size ∧ q < w6.heap.size := M6.cells.2.2
  have HM6 := hid M6
  have HB6 := hid B6
  clear hw6 M6 B6 HM5 HB5 f8 c8 k1 k2 HM4 HB4 HT1 L1T
  go_region_held3 (fun W => W.cell? ⟨w.heap.size + 1, 0, none⟩ = some (.slice (some ⟨w.heap.size, 0, none⟩) 1 1) ∧ W.cell? ⟨w.heap.size + 1, 1, none⟩ = some (.slice none 0 0) ∧ W.cell? ⟨q, 0, none⟩ = some (.int .i64 0) ∧ W.cell? ⟨q, 1, none⟩ = some (.int .i64 1) ∧ W.cell? ⟨q, 2, none⟩ = some (.string key) ∧ W.cell? ⟨q, 3, none⟩ = some (.string ByteArray.empty) ∧ W.cell? ⟨q, 4, none⟩ = some (.string ByteArray.empty) ∧ W.cell? ⟨q, 5, none⟩ = some (.slice none 0 0) ∧ W.cell? ⟨q, 6, none⟩ = some (.int .i64 0) ∧ W.cell? ⟨q, 7, none⟩ = some (.bool true) ∧ W.cell? ⟨q, 8, none⟩ = some (.string (val ++ was ++ ⟨#[120]⟩)) ∧ W.cell? ⟨q, 9, none⟩ = some (.slice none 0 0) ∧ W.cell? ⟨q, 10, none⟩ = some (.slice none 0 0) ∧ W.cell? ⟨q, 11, none⟩ = some (.int .u64 0) ∧ W.cell? ⟨q, 12, none⟩ = some (.int .i64 3) ∧ W.cell? ⟨q, 13, none⟩ = some (.int .i64 4)) (first | exact OpMid.held (V := w6) HM6.out (by repeat (first | with_reducible exact Below.refl _ _ | with_reducible assumption | with_reducible refine Below.drew ?_ | with_reducible refine below_drewN ?_ _ | with_reducible refine Below.alloc ?_ (by first | omega | (simp; done) | (simp; omega)) _ | with_reducible refine Below.setCell ?_ (by first | omega | (simp; done) | (simp; omega)) _)) | go_keep) (first | (go_at_call 17; refine (P1 _).mono ?_; rintro e wR ⟨rfl, hbR⟩; have stR : Below w6.heap.size w6 wR := (by refine Below.trans ?_ (hbR.mono ?_); exact (by repeat (first | with_reducible exact Below.refl _ _ | with_reducible assumption | with_reducible refine Below.drew ?_ | with_reducible refine below_drewN ?_ _ | with_reducible refine Below.alloc ?_ (by first | omega | (simp; done) | (simp; omega)) _ | with_reducible refine Below.setCell ?_ (by first | omega | (simp; done) | (simp; omega)) _)); (first | exact Nat.le_refl _ | (simp; done))); have sR := stR.size) | (go_at_call 16; refine (L1F (val ++ was ++ ⟨#[120]⟩) told_other q w6 _ HM6.out HB6.out ?_ _ ?_).mono ?_; (exact (by repeat (first | with_reducible exact Below.refl _ _ | with_reducible assumption | with_reducible refine Below.drew ?_ | with_reducible refine below_drewN ?_ _ | with_reducible refine Below.alloc ?_ (by first | omega | (simp; done) | (simp; omega)) _ | with_reducible refine Below.setCell ?_ (by first | omega | (simp; done) | (simp; omega)) _))); (first | (rw [heap_alloc_if, if_pos rfl]; rfl; done) | (show (World.alloc _ _).heap[_]? = _; rw [heap_alloc_if, if_pos (by simp)]; rfl)); rintro e wS ⟨rfl, hbS⟩; have stS : Below w6.heap.size w6 wS := (by refine Below.trans ?_ (hbS.mono ?_); exact (by repeat (first | with_reducible exact Below.refl _ _ | with_reducible assumption | with_reducible refine Below.drew ?_ | with_reducible refine below_drewN ?_ _ | with_reducible refine Below.alloc ?_ (by first | omega | (simp; done) | (simp; omega)) _ | with_reducible refine Below.setCell ?_ (by first | omega | (simp; done) | (simp; omega)) _)); (first | exact stR.size | (simp; exact stR.size) | (simp; have := stR.size; omega)))))
  have B7 : Below w.heap.size w wS := HB6.out.trans (stS.mono HB6.out.size)
  clear hbS stS stR sR hbR l1 l2 HM6 HB6 L1F
  go_wp2_with (go_at_call 11; refine (AW _ B7).mono ?_; rintro e wZ ⟨rfl, hbZ⟩)
  go_ret
  exact ⟨rfl, B7.trans (hbZ.mono B7.size)⟩
end Go.Proofs.YtamcehfcjcmpmaaDoor
