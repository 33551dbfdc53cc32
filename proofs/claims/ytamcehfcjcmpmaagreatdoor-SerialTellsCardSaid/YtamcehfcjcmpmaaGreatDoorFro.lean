/- (*serial.search).from: the search itself. -/
import Derived.Test.YtamcehfcjcmpmaaGreatDoorFr
import Derived.Test.YtamcehfcjcmpmaaGreatDoorSt8
import Derived.Test.YtamcehfcjcmpmaaGreatDoorApAny
import Derived.Deep.LoopGhost
import Derived.WalkMore
import Derived.Deep.QuietTactic
import Derived.BigQuiet
namespace Go.Proofs.YtamcehfcjcmpmaaGreatDoor
open Go.RowKit Go.MapKept
open Go.ChangeMaps (setBlock)

/-- what a call of from finds -/
structure FromPre (lo p m qq : Nat) (L : List Item) (must : Nat) (A : Option Addr) (c : Nat) (d : Nat) (S : Shelf) (PA : Option Addr) (pc : Nat) (QA : Option Addr) (qc : Nat) (row : List Nat) (T : Nat → List UInt8 → Prop) (w : World) : Prop where
  srch : SrchAt lo p m qq L must A c w row T
  items : ∀ x ∈ L, ItemIn w lo x
  shelf : ShS lo p m qq w PA pc QA qc S
  small : Small S (cntD L.length d)
  tried : TriedOk L must (cntD L.length d) T
  tab : Tab lo w
  dbit : ∀ i, d.testBit i = true → i < L.length
  mbit : ∀ i, must.testBit i = true → i < L.length
  rowl : row.length ≤ cntD L.length d
  len : L.length ≤ 12
  cap : L.length ≤ c
  max : c ≤ 9223372036854775807
/-- what it leaves -/
def GivesFrom (lo p m qq : Nat) (L : List Item) (must : Nat) (A : Option Addr) (c : Nat) (d : Nat) (S : Shelf) (row : List Nat) (T : Nat → List UInt8 → Prop) (w : World) (e : Ending) (w' : World) : Prop :=
  Fr lo p m qq w w' ∧ ∃ T', (e = .returned (.bool true) ∧ ∃ R, Least L must d S R ∧ SrchAt lo p m qq L must A c w' (row ++ R) T') ∨
    (e = .returned (.bool false) ∧ ¬ Leads L must d S ∧ TriedMore L must T T' ∧ SrchAt lo p m qq L must A c w' row T')
theorem GivesFrom.yes {lo p m qq : Nat} {L : List Item} {must : Nat} {A : Option Addr} {c d : Nat} {S : Shelf} {row R : List Nat} {T T' : Nat → List UInt8 → Prop} {w w' : World} (h : Fr lo p m qq w w') (hR : Least L must d S R) (hs : SrchAt lo p m qq L must A c w' (row ++ R) T') :
    GivesFrom lo p m qq L must A c d S row T w (.returned (.bool true)) w' := ⟨h, T', .inl ⟨rfl, R, hR, hs⟩⟩
theorem GivesFrom.no {lo p m qq : Nat} {L : List Item} {must : Nat} {A : Option Addr} {c d : Nat} {S : Shelf} {row : List Nat} {T T' : Nat → List UInt8 → Prop} {w w' : World} (h : Fr lo p m qq w w') (hn : ¬ Leads L must d S) (ht : TriedMore L must T T') (hs : SrchAt lo p m qq L must A c w' row T') :
    GivesFrom lo p m qq L must A c d S row T w (.returned (.bool false)) w' := ⟨h, T', .inr ⟨rfl, hn, ht, hs⟩⟩
theorem GivesFrom.bool {lo p m qq : Nat} {L : List Item} {must : Nat} {A : Option Addr} {c d : Nat} {S : Shelf} {row : List Nat} {T : Nat → List UInt8 → Prop} {w w' : World} {e : Ending} (h : GivesFrom lo p m qq L must A c d S row T w e w') : ∃ r, e = .returned (.bool r) := by
  obtain ⟨-, -, ⟨rfl, -⟩ | ⟨rfl, -⟩⟩ := h
  · exact ⟨_, rfl⟩
  · exact ⟨_, rfl⟩
theorem GivesFrom.onTrue {lo p m qq : Nat} {L : List Item} {must : Nat} {A : Option Addr} {c d : Nat} {S : Shelf} {row : List Nat} {T : Nat → List UInt8 → Prop} {w w' : World} (h : GivesFrom lo p m qq L must A c d S row T w (.returned (.bool true)) w') : Fr lo p m qq w w' ∧ ∃ T' R, Least L must d S R ∧ SrchAt lo p m qq L must A c w' (row ++ R) T' := by
  obtain ⟨h0, T', ⟨-, R, h1, h2⟩ | ⟨h1, -⟩⟩ := h
  · exact ⟨h0, T', R, h1, h2⟩
  · cases h1
theorem GivesFrom.onFalse {lo p m qq : Nat} {L : List Item} {must : Nat} {A : Option Addr} {c d : Nat} {S : Shelf} {row : List Nat} {T : Nat → List UInt8 → Prop} {w w' : World} (h : GivesFrom lo p m qq L must A c d S row T w (.returned (.bool false)) w') : Fr lo p m qq w w' ∧ ∃ T', ¬ Leads L must d S ∧ TriedMore L must T T' ∧ SrchAt lo p m qq L must A c w' row T' := by
  obtain ⟨h0, T', ⟨h1, -⟩ | ⟨-, h1, h2, h3⟩⟩ := h
  · cases h1
  · exact ⟨h0, T', h1, h2, h3⟩
theorem small_bits {n d : Nat} (h : ∀ i, d.testBit i = true → i < n) (hn : n ≤ 61) : d < 2305843009213693952 := by
  refine Nat.lt_of_not_le fun hge => ?_
  obtain ⟨i, hi, hb⟩ : ∃ i, 61 ≤ i ∧ d.testBit i = true := Nat.exists_ge_and_testBit_of_ge_two_pow (n := 61) hge
  have := h i hb
  omega
theorem and_bits (a b : Nat) (ha : a < 2305843009213693952) (hb : b < 2305843009213693952) : bits BinOp.and IntKind.u64 (a : Int) (b : Int) = ((a &&& b : Nat) : Int) := bits_and_u64_nat a b (by omega) (by omega)
theorem SrchAt.story {lo p m qq : Nat} {L : List Item} {must : Nat} {A : Option Addr} {c : Nat} {w : World} {row : List Nat} {T : Nat → List UInt8 → Prop} (h : SrchAt lo p m qq L must A c w row T) {k : Nat} (hk : k < L.length) : ∃ b off, A = some ⟨b, off, none⟩ ∧ b < w.heap.size ∧ StCells w b (off + k * 14) L[k].s := by
  obtain ⟨b, off, h1, h2, h3⟩ := (h.own.arr h.size).story (i := k) (by simpa using hk)
  refine ⟨b, off, h1, h2, ?_⟩
  simpa using h3
/-- the loop of from, as far as it came -/
structure FInv (lo p m qq : Nat) (L : List Item) (must : Nat) (A : Option Addr) (c : Nat) (d : Nat) (S : Shelf) (PA : Option Addr) (pc : Nat) (QA : Option Addr) (qc : Nat) (row : List Nat) (T : Nat → List UInt8 → Prop) (w : World) (k : Nat) (wr : World) : Prop where
  srch : ∃ T', SrchAt lo p m qq L must A c wr row T' ∧ TriedMore L must (addT T d (textL S)) T'
  fr : Fr lo p m qq w wr
  box : wr.heap[w.heap.size]? = some (.cells #[.slice PA S.pairs.length pc, .slice QA S.queue.length qc] 25 (0, 0))
  no : ∀ j, j < k → ¬ LeadsBy L must d S j
theorem bit_at (d k : Nat) (hd : d < 2305843009213693952) : bits BinOp.and IntKind.u64 ((d : Int) / 2 ^ k) 1 = if d.testBit k = true then 1 else 0 := by
  have e1 : ((d : Int) / 2 ^ k) = ((d / 2 ^ k : Nat) : Int) := by simp
  have h2 : d / 2 ^ k < 2305843009213693952 := Nat.lt_of_le_of_lt (Nat.div_le_self _ _) hd
  rw [e1]
  have := and_bits (d / 2 ^ k) 1 h2 (by decide)
  rw [show ((1 : Nat) : Int) = 1 from rfl] at this
  rw [this, Nat.and_one_is_mod, Nat.testBit_eq_decide_div_mod_eq]
  by_cases h : d / 2 ^ k % 2 = 1
  · simp [h]
  · have h0 : d / 2 ^ k % 2 = 0 := by omega
    simp [h0]
theorem FInv.skip {lo p m qq : Nat} {L : List Item} {must : Nat} {A : Option Addr} {c d : Nat} {S : Shelf} {PA : Option Addr} {pc : Nat} {QA : Option Addr} {qc : Nat} {row : List Nat} {T T' : Nat → List UInt8 → Prop} {w : World} {k : Nat} {wr wr' : World}
    (hS : SrchAt lo p m qq L must A c wr row T') (hT : TriedMore L must (addT T d (textL S)) T') (hF : Fr lo p m qq w wr) (hX : wr.heap[w.heap.size]? = some (.cells #[.slice PA S.pairs.length pc, .slice QA S.queue.length qc] 25 (0, 0))) (hno : ∀ j, j < k → ¬ LeadsBy L must d S j)
    (hk : ¬ LeadsBy L must d S k) (hb : Below wr.heap.size wr wr') : FInv lo p m qq L must A c d S PA pc QA qc row T w (k + 1) wr' :=
  ⟨⟨T', hS.below hb, hT⟩, hF.trans (Fr.of_below hb hS.size), (hb.block _ (lt_of_heap hX)).trans hX, fun j hj => by
    rcases (by omega : j < k ∨ j = k) with h | rfl
    · exact hno j h
    · exact hk⟩
/-- no story of the first j stands ahead of the k-th -/
def FreeTo (L : List Item) (d k j : Nat) (hk : k < L.length) : Prop := ∀ i (h : i < L.length), i < j → i ≠ k → d.testBit i = false → befB L[i].s L[k].s = false
theorem FreeTo.succ {L : List Item} {d k j : Nat} {hk : k < L.length} (h : FreeTo L d k j hk) (hj : j < L.length) (h1 : j ≠ k → d.testBit j = false → befB L[j].s L[k].s = false) : FreeTo L d k (j + 1) hk := fun i hi hij hne hb => by
  rcases (by omega : i < j ∨ i = j) with h2 | rfl
  · exact h i hi h2 hne hb
  · exact h1 hne hb
set_option maxHeartbeats 8000000 in
set_option maxRecDepth 100000 in
theorem from_any (lo p m qq : Nat) (L : List Item) (must : Nat) (A : Option Addr) (c : Nat) : ∀ (n d : Nat) (S : Shelf) (PA : Option Addr) (pc : Nat) (QA : Option Addr) (qc : Nat) (row : List Nat) (T : Nat → List UInt8 → Prop) (w : World), L.length - cntD L.length d = n →
    FromPre lo p m qq L must A c d S PA pc QA qc row T w →
    Calls Tryz.prog 25 #[.pointer (some ⟨p, 0, none⟩), .int .u64 (d : Int), .agg #[.slice PA S.pairs.length pc, .slice QA S.queue.length qc]] w (GivesFrom lo p m qq L must A c d S row T w) := by
  intro n
  induction n using Nat.strongRecOn with
  | _ n ih =>
    intro d S PA pc QA qc row T w hn h
    have IH := hid ih
    have H := hid h
    have HN := hid hn
    clear ih hn
    obtain ⟨⟨R, rc, hrow, hown⟩, ⟨es, clock, hmap, hcm⟩, -, hlp, hlm⟩ := h.srch
    have hsz := h.srch.size
    have hp := lt_of_heap hrow
    have hmm := lt_of_heap hmap
    have p0 := cell_of_row w _ 0 _ _ _ hrow
    have p1 := cell_of_row w _ 1 _ _ _ hrow
    have p3 := cell_of_row w _ 3 _ _ _ hrow
    have hd := small_bits h.dbit (by have := h.len; omega)
    have hmu := small_bits h.mbit (by have := h.len; omega)
    have hab := and_bits d must hd hmu
    have HROW := hid hrow
    have HOWN := hid hown
    have HMAP := hid hmap
    have HCM := hid hcm
    clear hrow hown hmap hcm h hd hmu
    by_cases hfin : d &&& must = must
    · have hF := hid hfin
      rw [hfin] at hab
      clear hfin
      go_enter Tryz.func25, Tryz.ntmps25
      go_wp2_with fail
      go_step3
      go_wp2_with fail
      go_quiet (fail)
      go_wp2_with fail
      rw [Exit.noGoto_ret]
      go_ret
      refine GivesFrom.yes (R := []) (T' := T) (((Fr.refl lo p m qq w).alloc hsz _).drewN _) (.fin hF.out) ?_
      rw [List.append_nil]
      exact H.out.srch.below (by repeat (first | exact Below.refl _ _ | assumption | refine Below.drew ?_ | refine below_drewN ?_ _ | refine Below.alloc ?_ (by first | omega | (simp; done) | (simp; omega)) _ | refine Below.setCell ?_ (by first | omega | (simp; done) | (simp; omega)) _))
    · have hF := hid hfin
      have htst : (((d &&& must : Nat) : Int) == (must : Int)) = false := by simpa using fun h : ((d &&& must : Nat) : Int) = (must : Int) => hfin (by omega)
      clear hfin
      have hcn := cntD_le L.length d
      have hl12 := H.out.len
      have TX : ∀ W, Below w.heap.size w W → Calls Tryz.prog 33 #[.agg #[.slice PA S.pairs.length pc, .slice QA S.queue.length qc]] W (GivesText S W) := fun W hW => text_any S PA pc QA qc W ((H.out.shelf.fr (Fr.of_below hW hsz)).in_ (Nat.le_trans hsz hW.size)) (H.out.small.text (by omega)) (by have := (H.out.small.pairs_le (by omega)).1; omega) (fun w2 h2 => H.out.tab w2 ((hW.mono hsz).trans (h2.mono (Nat.le_trans hsz hW.size))))
      go_enter Tryz.func25, Tryz.ntmps25
      go_wp2_with fail
      go_step3
      go_wp2_with fail
      go_quiet (fail)
      go_upto_region 4 with (go_at_call 33; refine (TX _ (by repeat (first | exact Below.refl _ _ | assumption | refine Below.drew ?_ | refine below_drewN ?_ _ | refine Below.alloc ?_ (by first | omega | (simp; done) | (simp; omega)) _ | refine Below.setCell ?_ (by first | omega | (simp; done) | (simp; omega)) _))).mono ?_; rintro e w1 ⟨t, rfl, htx, hb1⟩)
      have b1 : Below w.heap.size w w1 := Below.trans (by repeat (first | exact Below.refl _ _ | assumption | refine Below.drew ?_ | refine below_drewN ?_ _ | refine Below.alloc ?_ (by first | omega | (simp; done) | (simp; omega)) _ | refine Below.setCell ?_ (by first | omega | (simp; done) | (simp; omega)) _)) (hb1.mono (by first | omega | (simp; done) | (simp; omega)))
      have z1 : w.heap.size + 1 ≤ w1.heap.size := Nat.le_trans (by show _ ≤ (World.alloc _ _).heap.size; simp) hb1.size
      have q1 : w1.heap[w.heap.size]? = some (.cells #[.slice PA S.pairs.length pc, .slice QA S.queue.length qc] 25 (0, 0)) := (hb1.block _ (by simp)).trans (by show (World.alloc _ _).heap[_]? = _; rw [heap_alloc_if, if_pos rfl])
      clear hb1 TX
      obtain ⟨w2, hw2⟩ : ∃ w2, w2 = w1.alloc (.cells #[.int .u64 (d : Int), .string t] 82) := ⟨_, rfl⟩
      rw [← hw2]
      have B2 : Below w.heap.size w w2 := by rw [hw2]; exact b1.alloc (by omega) _
      have z2 : w2.heap.size = w1.heap.size + 1 := by rw [hw2]; simp
      have st2 : w2.heap[w1.heap.size]? = some (.cells #[.int .u64 (d : Int), .string t] 82 (0, 0)) := by rw [hw2]; exact (heap_alloc_if _ _ _).trans (if_pos rfl)
      have bx2 : w2.heap[w.heap.size]? = some (.cells #[.slice PA S.pairs.length pc, .slice QA S.queue.length qc] 25 (0, 0)) := by rw [hw2]; exact (Below.heap_alloc _ _ _ (by omega)).trans q1
      have rp2 := (B2.block p hp).trans HROW.out
      have mp2 := (B2.block m hmm).trans HMAP.out
      have k30 := cell_of_row w2 _ 3 _ _ _ rp2
      have ks0 := cell_of_row w2 _ 0 _ _ _ st2
      have ks1 := cell_of_row w2 _ 1 _ _ _ st2
      have l1 : w1.heap.size < w2.heap.size := by omega
      have lp2 : p < w2.heap.size := by omega
      have hts : t.size ≤ 10000000 := by
        have h1 := H.out.small.text (by omega : cntD L.length d ≤ 20)
        rw [← htx, bytesOf_len] at h1
        exact h1
      have hIn : InS d t := inS d t (by have := small_bits H.out.dbit (by omega); omega) (by omega)
      have HIN := hid hIn
      have HTX := hid htx
      have HQ2 := hid st2
      have HBX := hid bx2
      have HRP := hid rp2
      have HMP := hid mp2
      have HB2 := hid B2
      clear hIn htx st2 bx2 rp2 mp2 B2 q1 b1 z1 hw2 hts
      by_cases hT : T d (textL S)
      · have hlk : ∀ nq, (Instr.lookup 68 (.map (some m)) (.agg #[.int .u64 (d : Int), .string t]) false).run Tryz.prog (w2.drewN nq) = .ok (.int .i64 1) (w2.drewN nq) := fun nq => CMS.look_yes (w := w2.drewN nq) HCM.out HMP.out HIN.out (by rw [HTX.out]; exact hT)
        have HD := hid (tried_dead H.out.tried hT)
        clear hT
        go_quiet (fail)
        go_wp2_with fail
        rw [Exit.noGoto_ret]
        go_ret
        refine GivesFrom.no (T' := T) ((Fr.of_below HB2.out hsz).drewN _) HD.out TriedMore.refl (H.out.srch.below (below_drewN HB2.out _))
      · have hlk : ∀ nq, (Instr.lookup 68 (.map (some m)) (.agg #[.int .u64 (d : Int), .string t]) false).run Tryz.prog (w2.drewN nq) = .ok (.int .i64 0) (w2.drewN nq) := fun nq => CMS.look_no (w := w2.drewN nq) HCM.out HMP.out HIN.out (by rw [HTX.out]; exact hT)
        obtain ⟨es', clock', hput, hcm'⟩ := CMS.put_all (r := m) HCM.out HIN.out (show ¬ T d (bytesOf t) by rw [HTX.out]; exact hT)
        have HCM' := hid hcm'
        have HPUT := hid hput
        clear hT hcm' hput
        go_quiet (fail)
        go_wp2_with fail
        clear hlk
        generalize hw3 : World.drewN w2 _ = w3
        have e3 : w3.heap = w2.heap := by rw [← hw3]; rfl
        have k33 : w3.cell? ⟨p, 3, none⟩ = some (.map (some m)) := (World.cell?_of_block (w := w2) (a := ⟨p, 3, none⟩) (by rw [e3])).trans k30
        have ks03 : w3.cell? ⟨w1.heap.size, 0, none⟩ = some (.int .u64 (d : Int)) := (World.cell?_of_block (w := w2) (a := ⟨w1.heap.size, 0, none⟩) (by rw [e3])).trans ks0
        have ks13 : w3.cell? ⟨w1.heap.size, 1, none⟩ = some (.string t) := (World.cell?_of_block (w := w2) (a := ⟨w1.heap.size, 1, none⟩) (by rw [e3])).trans ks1
        have hp3 : (Instr.mapUpdate 68 (.map (some m)) (.agg #[.int .u64 (d : Int), .string t]) (.int .i64 1)).run Tryz.prog w3 = .ok () (setBlock w3 m (.map es' clock')) := HPUT.out w3 (by rw [e3]; exact HMP.out)
        have hp3' : (Instr.mapUpdate 68 (.map (some m)) (.agg #[.int .u64 (d : Int), .string t]) (.int .i64 1)).run Tryz.prog w3.drew = .ok () (setBlock w3.drew m (.map es' clock')) := HPUT.out w3.drew (by show w3.heap[m]? = _; rw [e3]; exact HMP.out)
        have l13 : w1.heap.size < w3.heap.size := by rw [e3]; omega
        have lp3 : p < w3.heap.size := by rw [e3]; omega
        have E3 := hid e3
        clear e3 k30 ks0 ks1
        go_region
        have S4 : SrchAt lo p m qq L must A c (setBlock w3.drew m (.map es' clock')) row (addT T d (textL S)) := SrchAt.setMap (w := w3.drew) (T := T) (by rw [← hw3]; exact (H.out.srch.below (below_drewN HB2.out _)).drew) (by rw [← HTX.out]; exact HCM'.out)
        have F4 : Fr lo p m qq w (setBlock w3.drew m (.map es' clock')) := SrchAt.frM (T := T) (by rw [← hw3]; exact (H.out.srch.below (below_drewN HB2.out _)).drew) (by rw [← hw3]; exact ((Fr.of_below HB2.out hsz).drewN _).drew) _
        have X4 : (setBlock w3.drew m (.map es' clock')).heap[w.heap.size]? = some (.cells #[.slice PA S.pairs.length pc, .slice QA S.queue.length qc] 25 (0, 0)) := by
          have hw' : (w3.drew).heap[m]? = some (.map es clock) := by show w3.heap[m]? = _; rw [E3.out]; exact HMP.out
          refine ((MapKept.heap_set hw').2 w.heap.size (by omega)).trans ?_
          show w3.heap[w.heap.size]? = _
          rw [E3.out]; exact HBX.out
        obtain ⟨w4, hw4⟩ : ∃ w4, w4 = setBlock w3.drew m (.map es' clock') := ⟨_, rfl⟩
        rw [← hw4] at S4 F4 X4 ⊢
        obtain ⟨⟨R4, rc4, r4, o4⟩, -, -, -, -⟩ := id S4
        have p04 := cell_of_row w4 _ 0 _ _ _ r4
        have lp4 := lt_of_heap r4
        have HI := hid (⟨⟨_, S4, TriedMore.refl⟩, F4, X4, fun j hj => absurd hj (by omega)⟩ : FInv lo p m qq L must A c d S PA pc QA qc row T w 0 w4)
        have HX4 := hid X4
        clear r4 o4 S4 F4 X4 hw4 hw3 E3 k33 ks03 ks13 hp3 hp3' l13 lp3 l1 lp2 p0 p1 p3 HQ2 HBX HRP HMP HB2 z2
        go_wp2_with fail
        go_step3
        go_wp2_with fail
        go_loopg [46] L.length (fun g v46 wr => ∃ k : Nat, k + g = L.length ∧ v46 = .int .i64 k ∧ FInv lo p m qq L must A c d S PA pc QA qc row T w k wr)
        case atStart => exact ⟨0, by omega, rfl, HI.out⟩
        case round =>
          obtain ⟨k, hkg, rfl, hinv⟩ := hrel
          have hcap := H.out.cap
          have hmax := H.out.max
          cases gk with
          | zero =>
            obtain rfl : k = L.length := by omega
            have HV := hid hinv
            clear hinv
            go_wp2_with fail
            rw [Exit.noGoto_ret]
            go_ret
            obtain ⟨⟨T', hS, hTM⟩, hF', hX, hno⟩ := HV.out
            have hnl : ¬ Leads L must d S := fun hl => by
              rcases leads_iff.1 hl with h1 | ⟨i, hi, h2⟩
              · exact hF.out h1
              · exact hno i hi ⟨hi, h2⟩
            exact GivesFrom.no hF' hnl (addT_more hTM hnl) hS
          | succ g =>
            obtain ⟨wo, hwo⟩ : ∃ x, x = wr := ⟨_, rfl⟩
            subst hwo
            have hlt : k < L.length := by omega
            obtain ⟨⟨T', hS, hTM⟩, hF, hX, hno⟩ := hinv
            obtain ⟨b, off, rfl, hbr, hcells⟩ := hS.story hlt
            obtain ⟨c0, c1, c2, c3, c4, c5, c6, c7, c8, c9, c10, c11, c12, c13⟩ := hcells
            have HS := hid hS
            have HTM := hid hTM
            have HF := hid hF
            have HX := hid hX
            have HNO := hid hno
            clear hS hTM hF hX hno HI
            have hd61 := small_bits H.out.dbit (by omega)
            have hbk := bit_at d k hd61
            by_cases hbit : d.testBit k = true
            · have HNK := hid (show ¬ LeadsBy L must d S k from fun ⟨_, ⟨_, h1, _⟩, _⟩ => by rw [hbit] at h1; cases h1)
              rw [if_pos hbit] at hbk
              clear hbit hd61
              go_wp2_with fail
              go_roundg g
              case measure => omega
              case rel => exact ⟨k + 1, by omega, by go_num, FInv.skip HS.out HTM.out HF.out HX.out HNO.out HNK.out (by repeat (first | exact Below.refl _ _ | assumption | refine Below.drew ?_ | refine below_drewN ?_ _ | refine Below.alloc ?_ (by first | omega | (simp; done) | (simp; omega)) _ | refine Below.setCell ?_ (by first | omega | (simp; done) | (simp; omega)) _))⟩
            · rw [if_neg hbit] at hbk
              have HBIT := hid (show d.testBit k = false by simpa using hbit)
              clear hbit
              obtain ⟨⟨R5, rc5, r5, o5⟩, -, -, -, -⟩ := id HS.out
              have pr0 := cell_of_row wo _ 0 _ _ _ r5
              have lpr := lt_of_heap r5
              have HR5 := hid r5
              have HO5 := hid o5
              clear r5 o5
              go_wp2_with fail
              obtain ⟨wx, hwx⟩ : ∃ wx, wx = wo.alloc (.cells #[.int .i64 L[k].s.th, .int .i64 L[k].s.c.kind, .string L[k].s.c.key, .string L[k].s.c.val, .string L[k].s.c.to, .slice L[k].s.c.gA L[k].s.c.gn L[k].s.c.gc, .int .i64 L[k].s.code, .bool L[k].s.fd, .string L[k].s.vl, .slice L[k].s.pA L[k].s.pn L[k].s.pc, .slice L[k].s.hA L[k].s.hn L[k].s.hc, .int .u64 L[k].s.ep, .int .i64 L[k].s.bg, .int .i64 L[k].s.en] 52) := ⟨_, rfl⟩
              rw [← hwx]
              have bwx : Below wo.heap.size wo wx := by rw [hwx]; exact (Below.refl _ _).alloc (Nat.le_refl _) _
              have zx : wx.heap.size = wo.heap.size + 1 := by rw [hwx]; simp
              have rx : wx.heap[wo.heap.size]? = some (.cells L[k].s.enc.toArray 52 (0, 0)) := by rw [hwx]; exact (heap_alloc_if _ _ _).trans (if_pos rfl)
              have HRX := hid rx
              clear hwx rx c0 c1 c2 c3 c4 c5 c6 c7 c8 c9 c10 c11 c12 c13 hbk
              go_loopg [61] L.length (fun g2 v61 wy => ∃ j : Nat, j + g2 = L.length ∧ v61 = .int .i64 j ∧ Below wx.heap.size wx wy ∧ Hid (FreeTo L d k j hlt))
              case atStart => exact ⟨0, by omega, rfl, Below.refl _ _, hid fun i h h' => absurd h' (by omega)⟩
              case round =>
                obtain ⟨j, hjg, rfl, hby, hfree⟩ := hrel
                have hzy := hby.size
                have bry : Below wo.heap.size wo wr := bwx.trans (hby.mono (by omega))
                have HRY := hid ((hby.block wo.heap.size (by omega)).trans HRX.out)
                obtain ⟨x1, x2, x3, x4, x5, x6, x7, x8, x9, x10, x11, x0, x12, x13⟩ := row_story HRY.out
                have hqy : wo.heap.size < wr.heap.size := lt_of_heap HRY.out
                cases gk with
                | zero =>
                  obtain rfl : j = L.length := by omega
                  have hfk : freeAt L d k := ⟨hlt, HBIT.out, fun i hi hne hb => hfree.out i hi hi hne hb⟩
                  have HFK := hid hfk
                  clear hfk hfree
                  have hlo := HS.out.size
                  have hbx := (bry.block _ (lt_of_heap HX.out)).trans HX.out
                  have bx0 := cell_of_row wr _ 0 _ _ _ hbx
                  have bx1 := cell_of_row wr _ 1 _ _ _ hbx
                  have hbl := lt_of_heap hbx
                  have FY : Fr lo p m qq w wr := HF.out.trans (Fr.of_below bry hlo)
                  have hloy : lo ≤ wr.heap.size := Nat.le_trans hlo bry.size
                  have hsl := H.out.small.pairs_le (by omega : cntD L.length d ≤ 20)
                  have HIT := hid (H.out.items L[k] (List.getElem_mem hlt))
                  obtain ⟨S5, hS5⟩ : ∃ x, x = apS L[k].s.c L[k].g S := ⟨_, rfl⟩
                  obtain ⟨a5, ha5⟩ : ∃ x, x = apA L[k].s.c L[k].g S := ⟨_, rfl⟩
                  have HS5 := hid hS5
                  have HA5 := hid ha5
                  clear hS5 ha5
                  have TA : ∀ W, Below wr.heap.size wr W → Calls Tryz.prog 35 #[.agg #[.slice PA S.pairs.length pc, .slice QA S.queue.length qc], .agg #[.int .i64 L[k].s.c.kind, .string L[k].s.c.key, .string L[k].s.c.val, .string L[k].s.c.to, .slice L[k].s.c.gA L[k].s.c.gn L[k].s.c.gc]] W (GivesAp S5 a5 W) := fun W hW => by
                    rw [HS5.out, HA5.out]
                    exact apply_any S PA pc QA qc L[k].s.c L[k].g W ((H.out.shelf.fr (FY.trans (Fr.of_below hW hloy))).in_ (Nat.le_trans hloy hW.size)) hsl.1 hsl.2 ((HIT.out.below (FY.below.trans (hW.mono hloy))).more (Nat.le_trans hloy hW.size)).call
                  have TN : ∀ (a : Ans) (RA : Option Addr) (rc : Nat) (HX : Option Addr) (hx : Nat) (W : World), Below wr.heap.size wr W → Arr bit 1 W W.heap.size HX a.hits → Calls Tryz.prog 36 #[storyV L[k].s, .agg #[.int .i64 a.code, .bool a.found, .string a.value, .slice RA a.pairs.length rc, .slice HX a.hits.length hx, .int .u64 0]] W fun e w' => e = .returned (.bool (answeredB L[k].s L[k].hs a)) ∧ Below W.heap.size W w' := fun a RA rc HX hx W hW hH =>
                    have hi := ((HIT.out.below (FY.below.trans (hW.mono hloy))).more (Nat.le_trans hloy hW.size))
                    answered_any L[k].s L[k].hs a RA rc HX hx W hi.hits hi.hn hH hi.hl
                  unfold storyV at TN
                  have HFY := hid FY
                  have HBY := hid hbx
                  clear FY hbx
                  go_upto_region 17 with (go_at_call 35; refine (TA _ (by repeat (first | exact Below.refl _ _ | assumption | refine Below.drew ?_ | refine below_drewN ?_ _ | refine Below.alloc ?_ (by first | omega | (simp; done) | (simp; omega)) _ | refine Below.setCell ?_ (by first | omega | (simp; done) | (simp; omega)) _))).mono ?_; rintro e w5 ⟨PA5, pc5, QA5, qc5, RA5, rcA5, HX5, hc5, rfl, hsh5, hps5, hhs5, hb5⟩)
                  obtain ⟨w6, hw6⟩ : ∃ w6, w6 = (w5.alloc (.cells #[.slice PA5 S5.pairs.length pc5, .slice QA5 S5.queue.length qc5] 25)).alloc (.cells #[.int .i64 a5.code, .bool a5.found, .string a5.value, .slice RA5 a5.pairs.length rcA5, .slice HX5 a5.hits.length hc5, .int .u64 0] 50) := ⟨_, rfl⟩
                  rw [← hw6]
                  have B5 : Below wr.heap.size wr w5 := Below.trans (by repeat (first | exact Below.refl _ _ | assumption | refine Below.drew ?_ | refine below_drewN ?_ _ | refine Below.alloc ?_ (by first | omega | (simp; done) | (simp; omega)) _ | refine Below.setCell ?_ (by first | omega | (simp; done) | (simp; omega)) _)) (hb5.mono (by first | omega | (simp; done) | (simp; omega)))
                  have z5 := B5.size
                  have B56 : Below w5.heap.size w5 w6 := by rw [hw6]; exact ((Below.refl _ _).alloc (Nat.le_refl _) _).alloc (by simp) _
                  have z6 : w6.heap.size = w5.heap.size + 2 := by rw [hw6]; simp
                  have r12 : w6.heap[w5.heap.size]? = some (.cells #[.slice PA5 S5.pairs.length pc5, .slice QA5 S5.queue.length qc5] 25 (0, 0)) := by rw [hw6]; exact (Below.heap_alloc _ _ _ (by simp)).trans ((heap_alloc_if _ _ _).trans (if_pos rfl))
                  have r13 : w6.heap[w5.heap.size + 1]? = some (.cells #[.int .i64 a5.code, .bool a5.found, .string a5.value, .slice RA5 a5.pairs.length rcA5, .slice HX5 a5.hits.length hc5, .int .u64 0] 50 (0, 0)) := by rw [hw6]; exact (heap_alloc_if _ _ _).trans (by rw [if_pos (by simp)])
                  have B6 : Below wr.heap.size wr w6 := B5.trans (B56.mono z5)
                  have rx6 := (B6.block wo.heap.size hqy).trans HRY.out
                  have HSH := hid hsh5
                  have HHS := hid ((hhs5.below B56).arr bit_len)
                  have H12 := hid r12
                  clear x0 x1 x2 x3 x4 x5 x6 x7 x8 x9 x10 x11 x12 x13 hb5 hps5 hhs5 hsh5 TA hw6 hbl bx0 bx1
                  obtain ⟨x1, x2, x3, x4, x5, x6, x7, x8, x9, x10, x11, x0, x12, x13⟩ := row_story rx6
                  have a0 := cell_of_row w6 _ 0 _ _ _ r13
                  have a1 := cell_of_row w6 _ 1 _ _ _ r13
                  have a2 := cell_of_row w6 _ 2 _ _ _ r13
                  have a3 := cell_of_row w6 _ 3 _ _ _ r13
                  have a4 := cell_of_row w6 _ 4 _ _ _ r13
                  have a5c := cell_of_row w6 _ 5 _ _ _ r13
                  have l13 : w5.heap.size + 1 < w6.heap.size := by omega
                  have lx6 := lt_of_heap rx6
                  clear r13 rx6 r12
                  have TN6 := TN a5 RA5 rcA5 HX5 hc5
                  clear TN
                  by_cases hok : answeredB L[k].s L[k].hs a5 = true
                  · rw [hok] at TN6
                    have HOK := hid (show L[k].ok S = true by unfold Item.ok; rw [← HA5.out]; exact hok)
                    clear hok
                    go_upto_region 18 with (go_at_call 36; refine (TN6 w6 B6 HHS.out).mono ?_; rintro e w7 ⟨rfl, hb7⟩)
                    have B67 := hb7
                    have z7 := hb7.size
                    have B7 : Below wo.heap.size wo w7 := bry.trans ((B6.trans (B67.mono B6.size)).mono bry.size)
                    have S7 := HS.out.below B7
                    obtain ⟨⟨R7, rc7, r7, o7⟩, -, -, -, -⟩ := id S7
                    have q72 := cell_of_row w7 _ 2 _ _ _ r7
                    have lp7 := lt_of_heap r7
                    have r127 := (B67.block w5.heap.size (by omega)).trans H12.out
                    have HSH7 := hid (ShOwn.mk ((HSH.out.pairs.below B56).below B67) ((HSH.out.queue.below B56).below B67) HSH.out.apart)
                    have hrow12 : row.length ≤ 12 := by have := H.out.rowl; omega
                    have HB7 := hid B7
                    have HS7 := hid S7
                    have HR7 := hid r7
                    have HO7 := hid o7
                    have H127 := hid r127
                    have HHl := hid hrow12
                    clear x0 x1 x2 x3 x4 x5 x6 x7 x8 x9 x10 x11 x12 x13 a0 a1 a2 a3 a4 a5c hb7 B67 B7 S7 r7 o7 r127 hrow12 TN6 l13 lx6
                    go_upto_region 19 with (at_builtin; refine app_num (l := row) (m := [k]) (A := R7) (c := rc7) (lo := lo) _ rfl (.tmp 97) (.tmp 99) (by first | rfl | simp [Act.eval]) (by first | rfl | simp [Act.eval]) (HO7.out.own.alloc _) 1 (by first | rfl | simp [Act.eval]) (arr_oneNum (vb := w7.heap.size) (x := k) (by rw [heap_alloc_if, if_pos (by simp)])) (by have := HHl.out; simp; omega) (by have := HS7.out.size; simp; omega) ?_; intro A8 c8 w8 hown8 hgr8 hloc8; obtain ⟨r8, s9, f9⟩ := HS7.out.push HR7.out HO7.out ((Below.refl _ _).alloc (Nat.le_refl _) _) hown8 hgr8 hloc8; have q82 := cell_of_row w8 _ 2 _ _ _ r8; have f82 := frozen_of_row w8 _ 2 _ _ r8; have lp8 := lt_of_heap r8; have S9 := hid s9; have F9 := hid f9; clear s9 f9 r8 hown8 hgr8 hloc8)
                    have S9' := S9.out
                    have F9' := F9.out
                    rw [List.length_append] at S9' F9'
                    obtain ⟨w9, hw9⟩ : ∃ w9, w9 = w8.setCell ⟨p, 2, none⟩ (.slice A8 (row.length + 1) c8) := ⟨_, rfl⟩
                    rw [← hw9]
                    replace S9' : SrchAt lo p m qq L must (some ⟨b, off, none⟩) c w9 (row ++ [k]) T' := by rw [hw9]; exact S9'
                    replace F9' : Fr lo p m qq w7 w9 := by rw [hw9]; exact F9'
                    have hlo7 := HS7.out.size
                    have FT : Fr lo p m qq w w9 := (HF.out.trans (Fr.of_below HB7.out hlo)).trans F9'
                    have hnp : ∀ cur, w7.heap[p]? ≠ some (.cells cur 54 (0, 0)) := fun cur h => by rw [HR7.out] at h; cases h
                    have hns : ∀ cur, w7.heap[p]? ≠ some (.cells cur 9 (0, 0)) := fun cur h => by rw [HR7.out] at h; cases h
                    have hm7 : ∀ (cur : Array Value) (e : TypeId), w7.heap[m]? ≠ some (.cells cur e (0, 0)) := fun cur e h => by
                      obtain ⟨-, ⟨es, cl, h3, -⟩, -⟩ := HS7.out
                      rw [h3] at h; cases h
                    have hsh9 : ShS lo p m qq w9 PA5 pc5 QA5 qc5 S5 := ShS.fr ⟨ArrS.of_own Pair.enc_len HSH7.out.pairs (by decide) hnp (fun cur => hm7 cur _), HSH7.out.pairs.len, HSH7.out.pairs.max, ArrS.of_own txt_len HSH7.out.queue (by decide) hns (fun cur => hm7 cur _), HSH7.out.queue.len, HSH7.out.queue.max⟩ F9'
                    have hcd := cntD_set hlt HBIT.out
                    have hcl := cntD_le L.length (d ||| 1 <<< k)
                    have hsm : Small S5 (cntD L.length (d ||| 1 <<< k)) := by rw [hcd, HS5.out]; exact H.out.small.next
                    have hto : TriedOk L must (cntD L.length (d ||| 1 <<< k)) T' := HTM.out.ok (addT_ok H.out.tried hlt HBIT.out)
                    have hdb : ∀ i, (d ||| 1 <<< k).testBit i = true → i < L.length := fun i hi => by
                      rw [testBit_set, Bool.or_eq_true, decide_eq_true_iff] at hi
                      rcases hi with hi | rfl
                      · exact H.out.dbit i hi
                      · exact hlt
                    have TF : ∀ W, Below w9.heap.size w9 W → Calls Tryz.prog 25 #[.pointer (some ⟨p, 0, none⟩), .int .u64 ((d ||| 1 <<< k : Nat) : Int), .agg #[.slice PA5 S5.pairs.length pc5, .slice QA5 S5.queue.length qc5]] W (GivesFrom lo p m qq L must (some ⟨b, off, none⟩) c (d ||| 1 <<< k) S5 (row ++ [k]) T' W) := fun W hW => by
                      have hl9 := S9'.size
                      have hbW : Below lo w W := FT.below.trans (hW.mono hl9)
                      refine IH.out (L.length - cntD L.length (d ||| 1 <<< k)) ?_ (d ||| 1 <<< k) S5 PA5 pc5 QA5 qc5 (row ++ [k]) T' W rfl ⟨S9'.below hW, fun x hx => (H.out.items x hx).below hbW, hsh9.fr (Fr.of_below hW hl9), hsm, hto, H.out.tab.go hbW, hdb, H.out.mbit, ?_, hl12, H.out.cap, H.out.max⟩
                      · have := HN.out; omega
                      · have := H.out.rowl; rw [List.length_append, hcd]; simp; omega
                    have hor := must_bits_min d k (by have := small_bits H.out.dbit (by omega); omega) (by omega)
                    have hor2 := must_bits d k (by have := small_bits H.out.dbit (by omega); omega) (by omega)
                    have hr12 : w9.heap[w5.heap.size]? = some (.cells #[.slice PA5 S5.pairs.length pc5, .slice QA5 S5.queue.length qc5] 25 (0, 0)) := F9'.boxed HS7.out H127.out (by decide) (by decide)
                    have y0 := cell_of_row w9 _ 0 _ _ _ hr12
                    have y1 := cell_of_row w9 _ 1 _ _ _ hr12
                    have hl5 := lt_of_heap hr12
                    have HS9 := hid S9'
                    have HF9 := hid F9'
                    have HFT := hid FT
                    have HCD := hid hcd
                    have hk60 : k < 64 := by omega
                    have hX9 := hid (F9'.boxed HS7.out ((HB7.out.block _ (lt_of_heap HX.out)).trans HX.out) (by decide) (by decide))
                    clear S9' F9' FT hnp hns hm7 hsh9 hcd hcl hsm hto hdb hr12 S9 F9 hw9 q82 f82 lp8 q72 lp7
                    go_region_with (go_at_call 25; (first | rw [hor] | rw [hor2] | skip); refine (TF _ (by repeat (first | exact Below.refl _ _ | assumption | refine Below.drew ?_ | refine below_drewN ?_ _ | refine Below.alloc ?_ (by first | omega | (simp; done) | (simp; omega)) _ | refine Below.setCell ?_ (by first | omega | (simp; done) | (simp; omega)) _))).mono ?_; rintro e wF hGF; obtain ⟨rb, rfl⟩ := hGF.bool; have HGF := hid hGF; clear hGF)
                    clear TF hor hor2 y0 y1 hl5
                    cases rb with
                    | true =>
                      go_wp2_with fail
                      rw [Exit.noGoto_ret]
                      go_ret
                      obtain ⟨f, T2, R', hl, hs⟩ := HGF.out.onTrue
                      refine GivesFrom.yes (R := k :: R') (T' := T2) (HFT.out.drew.trans f) (.step hlt hF.out HNO.out HFK.out HOK.out ?_) ?_
                      · have e : L[k].next S = S5 := HS5.out.symm
                        rw [e]; exact hl
                      · simpa using hs
                    | false =>
                      obtain ⟨f, T2, hnl, htm, hs⟩ := HGF.out.onFalse
                      obtain ⟨RP, rcP, rP, hl1, hl2, sP, fP⟩ := hs.pop
                      have q2 := cell_of_row wF _ 2 _ _ _ rP
                      have f2 := frozen_of_row wF _ 2 _ _ rP
                      have lpF := lt_of_heap rP
                      have HTM2 := hid (HTM.out.trans htm)
                      have HNK := hid (show ¬ LeadsBy L must d S k from fun ⟨_, _, _, h1⟩ => by
                        have e : L[k].next S = S5 := HS5.out.symm
                        rw [e] at h1
                        exact hnl h1)
                      have HSP := hid sP
                      have HFP := hid (HFT.out.drew.trans (f.trans fP))
                      have HXP := hid ((f.trans fP).boxed (HS9.out.drew) (show w9.drew.heap[w.heap.size]? = _ from hX9.out) (by decide) (by decide))
                      clear rP sP fP hnl htm hs f
                      go_upto_region 21 with fail
                      go_region
                      go_wp2_with fail
                      go_roundg g
                      case measure => omega
                      case rel => exact ⟨k + 1, by omega, by go_num, FInv.skip (T' := T2) HSP.out HTM2.out HFP.out HXP.out HNO.out HNK.out (Below.refl _ _).drew⟩
                  · have hok' : answeredB L[k].s L[k].hs a5 = false := by simpa using hok
                    rw [hok'] at TN6
                    have HNK := hid (show ¬ LeadsBy L must d S k from fun ⟨_, _, h1, _⟩ => by
                      unfold Item.ok at h1
                      rw [← HA5.out, hok'] at h1
                      cases h1)
                    clear hok hok'
                    go_wp2_with (go_at_call 36; refine (TN6 w6 B6 HHS.out).mono ?_; rintro e w7 ⟨rfl, hb7⟩)
                    go_roundg g
                    case measure => omega
                    case rel => exact ⟨k + 1, by omega, by go_num, FInv.skip HS.out HTM.out HF.out HX.out HNO.out HNK.out (bry.trans ((B6.trans (hb7.mono B6.size)).mono bry.size))⟩
                | succ g2 =>
                  have hjl : j < L.length := by omega
                  obtain ⟨b', off', hA', hbr', hcells⟩ := (HS.out.below bry).story hjl
                  cases hA'
                  obtain ⟨c0, c1, c2, c3, c4, c5, c6, c7, c8, c9, c10, c11, c12, c13⟩ := hcells
                  by_cases hjk : j = k
                  · have g1 : ((j : Int) != (k : Int)) = false := by simp [hjk]
                    have HFJ := hid (hfree.out.succ hjl fun hne _ => absurd hjk hne)
                    clear hjk hfree
                    go_wp2_with fail
                    go_roundg g2
                    case measure => omega
                    case rel => exact ⟨j + 1, by omega, by go_num, (by repeat (first | exact Below.refl _ _ | assumption | refine Below.drew ?_ | refine below_drewN ?_ _ | refine Below.alloc ?_ (by first | omega | (simp; done) | (simp; omega)) _ | refine Below.setCell ?_ (by first | omega | (simp; done) | (simp; omega)) _)), HFJ⟩
                  · have g1 : ((j : Int) != (k : Int)) = true := by simp; omega
                    have hbj := bit_at d j (small_bits H.out.dbit (by omega))
                    by_cases hbitj : d.testBit j = true
                    · rw [if_pos hbitj] at hbj
                      have HFJ := hid (hfree.out.succ hjl fun _ hb => by rw [hbitj] at hb; cases hb)
                      clear hjk hfree hbitj
                      go_wp2_with fail
                      go_roundg g2
                      case measure => omega
                      case rel => exact ⟨j + 1, by omega, by go_num, (by repeat (first | exact Below.refl _ _ | assumption | refine Below.drew ?_ | refine below_drewN ?_ _ | refine Below.alloc ?_ (by first | omega | (simp; done) | (simp; omega)) _ | refine Below.setCell ?_ (by first | omega | (simp; done) | (simp; omega)) _)), HFJ⟩
                    · rw [if_neg hbitj] at hbj
                      have hp := before_any L[j].s L[k].s
                      unfold storyV at hp
                      by_cases hbf : befB L[j].s L[k].s = true
                      · rw [hbf] at hp
                        have HNK := hid (show ¬ LeadsBy L must d S k from fun ⟨_, ⟨_, _, h1⟩, _⟩ => by
                          have := h1 j hjl hjk (by simpa using hbitj)
                          rw [hbf] at this
                          cases this)
                        clear hjk hfree hbitj hbf
                        go_wp2_with (go_at_call 34; refine (hp _).mono ?_; rintro e w5 ⟨rfl, hb5⟩)
                        go_roundg g
                        case measure => omega
                        case rel => exact ⟨k + 1, by omega, by go_num, FInv.skip HS.out HTM.out HF.out HX.out HNO.out HNK.out (bry.trans ((show Below wr.heap.size wr _ from Below.trans (by repeat (first | exact Below.refl _ _ | assumption | refine Below.drew ?_ | refine below_drewN ?_ _ | refine Below.alloc ?_ (by first | omega | (simp; done) | (simp; omega)) _ | refine Below.setCell ?_ (by first | omega | (simp; done) | (simp; omega)) _)) (hb5.mono (by first | omega | (simp; done) | (simp; omega)))).mono bry.size))⟩
                      · have hbf' : befB L[j].s L[k].s = false := by simpa using hbf
                        rw [hbf'] at hp
                        have HFJ := hid (hfree.out.succ hjl fun _ _ => hbf')
                        clear hjk hfree hbitj hbf hbf'
                        go_wp2_with (go_at_call 34; refine (hp _).mono ?_; rintro e w5 ⟨rfl, hb5⟩)
                        go_roundg g2
                        case measure => omega
                        case rel => exact ⟨j + 1, by omega, by go_num, hby.trans ((show Below wr.heap.size wr _ from Below.trans (by repeat (first | exact Below.refl _ _ | assumption | refine Below.drew ?_ | refine below_drewN ?_ _ | refine Below.alloc ?_ (by first | omega | (simp; done) | (simp; omega)) _ | refine Below.setCell ?_ (by first | omega | (simp; done) | (simp; omega)) _)) (hb5.mono (by first | omega | (simp; done) | (simp; omega)))).mono hzy), HFJ⟩
end Go.Proofs.YtamcehfcjcmpmaaGreatDoor
