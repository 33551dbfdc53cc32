/- (*fuseeref25.search).goOn: the reference's search. -/
import Derived.Test.YtamcehfcjcmpmaaGreatDoorZgp
import Derived.Deep.DeepCutAuto
namespace Go.Proofs.YtamcehfcjcmpmaaGreatDoor
open Go.RowKit

theorem Own.rowLo {α : Type} {enc : α → List Value} {e : TypeId} {k : Nat} {W : World} {lo : Nat} {A : Option Addr} {c : Nat} {l : List α} (h : Own enc e k W lo A c l) : ∀ q, rowOf A c = some q → lo ≤ q := fun q hq => by
  unfold rowOf at hq
  split at hq
  · cases hq
  · rcases h.lt with h0 | ⟨b, off, rfl, hl, -⟩
    · contradiction
    · cases hq
      exact hl
theorem ArrX.ne {α : Type} {enc : α → List Value} {k p q : Nat} {w : World} {A : Option Addr} {l : List α} (h : ArrX enc k p q w A l) {i : Nat} (hi : i < l.length) {b o : Nat} (hA : A = some ⟨b, o, none⟩) : b ≠ p := by
  rcases h with h | ⟨b', off, h1, h2, -⟩
  · rw [h] at hi
    exact absurd hi (Nat.not_lt_zero _)
  · rw [h1] at hA
    cases hA
    exact h2.2.1
theorem keep4R {lo n p pb po k : Nat} {w W w' : World} {v0 v1 v2 v3 x0 x1 x2 : Value} {e : TypeId} (hb : Below w.heap.size w W) (hO : Old2 lo p p W w') (h1 : n < w.heap.size) (n1 : n ≠ p) (h3 : pb < w.heap.size) (n3 : pb ≠ p) (hbox : w'.heap[p]? = some (.cells #[x0, x1, x2] e (0, 0))) (hv : x1 = v2)
    (h : w.cell? ⟨n, 0, none⟩ = some v0 ∧ w.cell? ⟨n, 1, none⟩ = some v1 ∧ w.cell? ⟨p, 1, none⟩ = some v2 ∧ w.cell? ⟨pb, po + k, none⟩ = some v3) : w'.cell? ⟨n, 0, none⟩ = some v0 ∧ w'.cell? ⟨n, 1, none⟩ = some v1 ∧ w'.cell? ⟨p, 1, none⟩ = some v2 ∧ w'.cell? ⟨pb, po + k, none⟩ = some v3 := by
  have hn := (hO.keep n (Nat.lt_of_lt_of_le h1 hb.size) n1 n1).trans (hb.block n h1)
  have hp := (hO.keep pb (Nat.lt_of_lt_of_le h3 hb.size) n3 n3).trans (hb.block pb h3)
  exact ⟨(World.cell?_of_block (a := ⟨n, 0, none⟩) hn).trans h.1, (World.cell?_of_block (a := ⟨n, 1, none⟩) hn).trans h.2.1, by rw [← hv]; exact cell_of_row w' p 1 _ _ _ hbox, (World.cell?_of_block (a := ⟨pb, po + k, none⟩) hp).trans h.2.2.2⟩
theorem keep4G {W W' : World} {n p pb po k : Nat} {v0 v1 v2 v3 : Value} (hb : Below W.heap.size W W') (h1 : n < W.heap.size) (h2 : p < W.heap.size) (h3 : pb < W.heap.size) (h : W.cell? ⟨n, 0, none⟩ = some v0 ∧ W.cell? ⟨n, 1, none⟩ = some v1 ∧ W.cell? ⟨p, 1, none⟩ = some v2 ∧ W.cell? ⟨pb, po + k, none⟩ = some v3) : W'.cell? ⟨n, 0, none⟩ = some v0 ∧ W'.cell? ⟨n, 1, none⟩ = some v1 ∧ W'.cell? ⟨p, 1, none⟩ = some v2 ∧ W'.cell? ⟨pb, po + k, none⟩ = some v3 :=
  ⟨(hb.cell (p := ⟨n, 0, none⟩) h1).trans h.1, (hb.cell (p := ⟨n, 1, none⟩) h1).trans h.2.1, (hb.cell (p := ⟨p, 1, none⟩) h2).trans h.2.2.1, (hb.cell (p := ⟨pb, po + k, none⟩) h3).trans h.2.2.2⟩
set_option maxHeartbeats 4000000 in
set_option maxRecDepth 100000 in
theorem goOn_any (lo p : Nat) (xs : List Item) (must : Nat) (A : Option Addr) (c : Nat) (PL : Option Addr) (pl : Nat) : ∀ (n d : Nat) (S : Shelf) (PA : Option Addr) (pc : Nat) (QA : Option Addr) (qc : Nat) (ds : List Bool) (D : Option Addr) (dc : Nat) (row : List Nat) (RA : Option Addr) (rc : Nat) (left : Nat) (w : World), (picks xs).length - cntD (picks xs).length d = n →
    GoPre lo p xs must A c PL pl d S PA pc QA qc ds D dc row RA rc left w →
    Calls Tryz.prog 21 #[.pointer (some ⟨p, 0, none⟩), .agg #[.slice PA S.pairs.length pc, .slice QA S.queue.length qc], .slice D ds.length dc, .slice RA row.length rc] w (GivesGo lo p xs must A c PL pl d S row left w) := by
  intro n
  induction n using Nat.strongRecOn with
  | _ n ih =>
  intro d S PA pc QA qc ds D dc row RA rc left w hn hP
  have HP := hid hP
  have HIH := hid ih
  have HDL := hid hP.isd.1
  have hl12 := hP.len
  have hlop := hP.lop
  have hlp := lt_of_heap hP.box
  have p0 := cell_of_row w _ 0 _ _ _ hP.box
  have p1 := cell_of_row w _ 1 _ _ _ hP.box
  have p2 := cell_of_row w _ 2 _ _ _ hP.box
  clear hP ih
  go_enter Tryz.func21, Tryz.ntmps21
  go_wp2_with fail
  generalize hw1 : World.alloc w _ = w1
  have R1 : w1.heap[w.heap.size]? = some (.cells #[.slice PA S.pairs.length pc, .slice QA S.queue.length qc] 25 (0, 0)) := by rw [← hw1]; exact (heap_alloc_if _ _ _).trans (if_pos rfl)
  have b1 : Below w.heap.size w w1 := by rw [← hw1]; exact (Below.refl _ _).alloc (Nat.le_refl _) _
  have HR1 := hid R1
  have hz1 := b1.size
  clear hw1 R1 p0 p1 p2
  go_loopw [10, 11] (fun v10 v11 wr => ∃ (k : Nat) (b : Bool), k ≤ (picks xs).length ∧ v11 = .int .i64 k ∧ v10 = .bool b ∧ Hid (b = true ↔ AllTo (picks xs) d k) ∧ Below w1.heap.size w1 wr) (fun _ v11 _ => (picks xs).length - (intOf v11).toNat)
  case atStart => exact ⟨0, true, Nat.zero_le _, rfl, rfl, hid ⟨fun _ i _ h => absurd h (by omega), fun _ => rfl⟩, Below.refl _ _⟩
  case round =>
    obtain ⟨k, ball, hkl, rfl, rfl, hall, hb⟩ := hrel
    have bwr : Below w.heap.size w wr := b1.trans (hb.mono hz1)
    have hszr := bwr.size
    have Bx := (bwr.block p hlp).trans HP.out.box
    have p0 := cell_of_row wr _ 0 _ _ _ Bx
    have p1 := cell_of_row wr _ 1 _ _ _ Bx
    have p2 := cell_of_row wr _ 2 _ _ _ Bx
    have hlp' : p < wr.heap.size := lt_of_heap Bx
    have HBX := hid Bx
    have Ow : Old2 lo p p w wr := Old2.of_below bwr (by omega)
    have HOW := hid Ow
    clear Bx Ow
    by_cases hlt : k < (picks xs).length
    · have hkd : k < ds.length := by have := HDL.out; omega
      obtain ⟨db, dof, hD, hDb, dk⟩ := ((HP.out.done.old HOW.out).arr).bit1 hkd
      simp only [Nat.mul_one] at dk
      rw [HP.out.isd.2 k hkd] at dk
      obtain ⟨k1, k2, k3, ek⟩ := place_at xs hlt
      obtain ⟨ab, ao, hA, hAb, hcells⟩ := (HP.out.sts.arr.below (bwr.mono (by omega))).story k3
      obtain ⟨pb, po, hPL, hPb, pk⟩ := ((HP.out.at'.old HOW.out).arr).numE1 k1
      rw [ek] at hcells
      have h13 := hcells.c13
      have hkk : (k : Int) < (ds.length : Int) := by omega
      have hkp : (k : Int) < ((places xs).length : Int) := by omega
      have hkx : ((places xs)[k] : Int) < (xs.length : Int) := by omega
      have hab : ab < wr.heap.size := by omega
      have hdb : db < wr.heap.size := hDb
      have hpb : pb < wr.heap.size := hPb
      rw [hA] at p0
      rw [hPL] at p1
      have HA := hid hA
      have HPL := hid hPL
      have HD := hid hD
      obtain ⟨en, hen⟩ : ∃ en, en = (picks xs)[k].s.en := ⟨_, rfl⟩
      rw [← hen] at h13
      have HEN := hid hen
      have hsucc : ∀ b' : Bool, (b' = true ↔ ball = true ∧ (d.testBit k = true ∨ en < 0)) → (b' = true ↔ AllTo (picks xs) d (k + 1)) := fun b' hb' => by
        rw [hb', hall.out]
        constructor
        · rintro ⟨h1, h2⟩ i hi hik
          rcases (by omega : i < k ∨ i = k) with h3 | rfl
          · exact h1 i hi h3
          · rw [← hen]; exact h2
        · intro h
          exact ⟨fun i hi hik => h i hi (by omega), by have := h k hlt (by omega); rw [← hen] at this; exact this⟩
      have HS := hid hsucc
      clear hA hPL hen hcells ek k2 k3 hsucc hall
      subst hD
      generalize (places xs)[k] = mk at *
      cases ball with
      | false =>
        go_wp2_with fail
        go_quiet (fail)
        go_wp2_with fail
        exact ⟨⟨k + 1, false, by omega, by go_num, rfl, hid (HS.out false (by simp)), below_drewN hb _⟩, by simp [intOf]; omega⟩
      | true =>
        cases hdk : d.testBit k with
        | true =>
          rw [hdk] at dk
          go_wp2_with fail
          go_quiet (fail)
          go_wp2_with fail
          exact ⟨⟨k + 1, true, by omega, by go_num, rfl, hid (HS.out true (by simp [hdk])), below_drewN hb _⟩, by simp [intOf]; omega⟩
        | false =>
          rw [hdk] at dk
          by_cases hneg : en < 0
          · go_wp2_with fail
            go_quiet (fail)
            go_wp2_with fail
            exact ⟨⟨k + 1, true, by omega, by go_num, rfl, hid (HS.out true (by simp [hneg])), below_drewN hb _⟩, by simp [intOf]; omega⟩
          · have hneg' : decide (en < 0) = false := by simpa using hneg
            go_wp2_with fail
            go_quiet (fail)
            go_wp2_with fail
            exact ⟨⟨k + 1, false, by omega, by go_num, rfl, hid (HS.out false (by simp [hdk, hneg])), below_drewN hb _⟩, by simp [intOf]; omega⟩
    · obtain rfl : k = (picks xs).length := by omega
      have hiff := hall.out.trans (allTo_iff HP.out.mus)
      have hnl : ¬ (((picks xs).length : Nat) : Int) < (((places xs).length : Nat) : Int) := by rw [places_len]; omega
      cases ball with
      | true =>
        have HF := hid (hiff.1 rfl)
        clear hiff hall
        go_wp2_with fail
        go_ret2
        have hc : cntD (picks xs).length d ≤ (picks xs).length := cntD_le _ _
        exact ⟨HOW.out, left, row, RA, rc, true, rfl, Nat.le_refl _, HBX.out, HP.out.rows.old HOW.out, HP.out.rcap.1, HP.out.rcap.2, Nat.le_trans HP.out.rowl (by omega), fun _ => ⟨fun _ => ⟨[], .fin HF.out, by simp [told]⟩, fun h => by cases h⟩⟩
      | false =>
        have HNF : Hid (¬ d &&& must = must) := hid fun h => by have := hiff.2 h; cases this
        clear hiff hall
        have HGI := hid (show GoInv lo p xs must A c PL pl d S PA pc QA qc left w 0 left wr from ⟨HBX.out, Nat.le_refl _, HOW.out, (hb.block _ (lt_of_heap HR1.out)).trans HR1.out, fun _ j hj => absurd hj (by omega)⟩)
        have hb0 := hb
        obtain ⟨wq, hwq⟩ : ∃ x, x = wr := ⟨_, rfl⟩
        subst hwq
        go_wp2_with fail
        clear p0 p1 p2
        go_loopw [12] (fun v12 wr => ∃ k m : Nat, k ≤ (picks xs).length ∧ v12 = .int .i64 k ∧ GoInv lo p xs must A c PL pl d S PA pc QA qc left w k m wr) (fun v12 _ => (picks xs).length - (intOf v12).toNat)
        case atStart => exact ⟨0, left, Nat.zero_le _, rfl, HGI.out⟩
        case round =>
          clear HGI HBX HOW hb hb0 hlp' bwr hszr hnl hkl hlt
          obtain ⟨k, m, hkl, rfl, hI⟩ := hrel
          have HI := hid hI
          have p0 := cell_of_row wr _ 0 _ _ _ hI.box
          have p1 := cell_of_row wr _ 1 _ _ _ hI.box
          have p2 := cell_of_row wr _ 2 _ _ _ hI.box
          have hlp' := lt_of_heap hI.box
          have hls := lt_of_heap hI.sh
          have hlo : lo ≤ wr.heap.size := by omega
          clear hI
          by_cases hlt : k < (picks xs).length
          · have hltp : (k : Int) < (((places xs).length : Nat) : Int) := by rw [places_len]; omega
            rcases Nat.eq_zero_or_pos m with hm0 | hm0
            · subst hm0
              go_wp2_with fail
              go_quiet (fail)
              go_wp2_with fail
              exact ⟨⟨k + 1, 0, by omega, by go_num, HI.out.skip (below_drewN (Below.refl _ _) _) hlo (fun h => absurd h (by omega))⟩, by simp [intOf]; omega⟩
            · have hm1 : ¬ m = 0 := by omega
              have hm2 : decide (m = 0) = false := decide_eq_false hm1
              have HM1 := hid hm0
              clear hm0
              go_wp2_with fail
              have HALL := hid (And.intro p0 (And.intro p1 p2))
              have HFR : Hid (∀ W, Below wr.heap.size wr W → Calls Tryz.prog 29 #[.slice A xs.length c, .slice PL (places xs).length pl, .slice D ds.length dc, .int .i64 k] W (GivesFree (picks xs) d k W)) := hid fun W hW =>
                free_any xs A c PL pl ds D dc d k W ((HP.out.sts.arr.below (HI.out.old.below.trans (hW.mono hlo))).more (Nat.le_trans hlo hW.size)) (((HP.out.at'.old HI.out.old).arr.below hW).more hW.size) (((HP.out.done.old HI.out.old).arr.below hW).more hW.size) HP.out.isd hlt (by have := HP.out.xl; omega) HP.out.self
              go_region_held3 (fun W => W.cell? ⟨p, 0, none⟩ = some (.slice A xs.length c) ∧ W.cell? ⟨p, 1, none⟩ = some (.slice PL (places xs).length pl) ∧ W.cell? ⟨p, 2, none⟩ = some (.int .i64 (m : Int))) (first | exact keepB (W := wr) (by repeat (first | with_reducible exact Below.refl _ _ | with_reducible assumption | with_reducible refine Below.drew ?_ | with_reducible refine below_drewN ?_ _ | with_reducible refine Below.alloc ?_ (by first | omega | (simp; done) | (simp; omega)) _ | with_reducible refine Below.setCell ?_ (by first | omega | (simp; done) | (simp; omega)) _)) hlp' HALL.out | go_keep) (first | (go_at_call 29; refine (HFR.out _ ?_).mono ?_; (exact (by repeat (first | with_reducible exact Below.refl _ _ | with_reducible assumption | with_reducible refine Below.drew ?_ | with_reducible refine below_drewN ?_ _ | with_reducible refine Below.alloc ?_ (by first | omega | (simp; done) | (simp; omega)) _ | with_reducible refine Below.setCell ?_ (by first | omega | (simp; done) | (simp; omega)) _))); rintro e wF ⟨rF, rfl, hbF, hrF⟩; have stF : Below wr.heap.size wr wF := (by refine Below.trans ?_ (hbF.mono ?_); exact (by repeat (first | with_reducible exact Below.refl _ _ | with_reducible assumption | with_reducible refine Below.drew ?_ | with_reducible refine below_drewN ?_ _ | with_reducible refine Below.alloc ?_ (by first | omega | (simp; done) | (simp; omega)) _ | with_reducible refine Below.setCell ?_ (by first | omega | (simp; done) | (simp; omega)) _)); (first | exact Nat.le_refl _ | (simp; done)))) | fail)
              all_goals
                rename_i hHeld
                clear hHeld
                cases rF with
                | false =>
                  have HNF2 : Hid (¬ LeadsBy (picks xs) must d S k) := hid fun ⟨_, h, _⟩ => by have := hrF.2 h; cases this
                  clear hrF
                  go_wp2_with fail
                  exact ⟨⟨k + 1, m, by omega, by go_num, HI.out.skip stF hlo (fun _ => HNF2.out)⟩, by simp [intOf]; omega⟩
                | true =>
                  have HFK := hid (hrF.1 rfl)
                  have BF := (stF.block p hlp').trans HI.out.box
                  have f2 := frozen_of_row wF _ 2 _ _ BF
                  have y0 := cell_of_row wF _ 0 _ _ _ BF
                  have y1 := cell_of_row wF _ 1 _ _ _ BF
                  have y2 := cell_of_row wF _ 2 _ _ _ BF
                  have hlF := lt_of_heap BF
                  have i1 : IntKind.i64.wrap ((m : Int) - 1) = (m : Int) - 1 := Go.IntWalk.i64_in _ (by have := HI.out.le; have := HP.out.left; omega)
                  have HBF := hid BF
                  clear hrF BF p0 p1 p2
                  go_upto_region 13 with fail
                  have HI7 := hid (HI.out.dec stF hlo hlop (by omega) HM1.out)
                  obtain ⟨w7, hw7⟩ : ∃ w7, w7 = wF.setCell ⟨p, 2, none⟩ (.int .i64 ((m : Int) - 1)) := ⟨_, rfl⟩
                  rw [← hw7] at HI7 ⊢
                  have hz7 : w7.heap.size = wF.heap.size := by rw [hw7]; simp
                  have hlo7 : lo ≤ w7.heap.size := by have := stF.size; omega
                  have B7 := HI7.out.box
                  have q0 := cell_of_row w7 _ 0 _ _ _ B7
                  have q1 := cell_of_row w7 _ 1 _ _ _ B7
                  have hl7 := lt_of_heap B7
                  have hltp' : (k : Int) < (((places xs).length : Nat) : Int) := hltp
                  obtain ⟨k1, k2, k3, ek⟩ := place_at xs hlt
                  obtain ⟨ab, ao, hA, hAb, hcells⟩ := (HP.out.sts.arr.below HI7.out.old.below).story k3
                  obtain ⟨pb, po, hPL, hPb, pk⟩ := ((HP.out.at'.old HI7.out.old).arr).numE1 k1
                  rw [ek] at hcells
                  have hkx : ((places xs)[k] : Int) < (xs.length : Int) := by omega
                  have hab : ab < w7.heap.size := by omega
                  have hpb : pb < w7.heap.size := hPb
                  rw [hA] at q0
                  rw [hPL] at q1
                  have HA := hid hA
                  have HPL := hid hPL
                  obtain ⟨x, hx⟩ : ∃ x, x = (picks xs)[k] := ⟨_, rfl⟩
                  rw [← hx] at hcells
                  have HX := hid hx
                  have HZ7 := hid hz7
                  have HMK : Hid ((places xs)[k] = (places xs).getD k 0) := hid (by rw [List.getD_eq_getElem?_getD, List.getElem?_eq_getElem k1, Option.getD_some])
                  clear hA hPL hx ek k2 k3 hw7 hz7 B7 y0 y1 y2 f2 hlF i1 hm1 hm2
                  generalize (places xs)[k] = mk at *
                  obtain ⟨c0, c1, c2, c3, c4, c5, c6, c7, c8, c9, c10, c11, c12, c13⟩ := hcells
                  go_cut [13] (fun v13 wx => ∃ q, v13 = .pointer (some ⟨q, 0, none⟩) ∧ w7.heap.size ≤ q ∧ wx.heap[q]? = some (.cells x.s.enc.toArray 52 (0, 0)) ∧ Below w7.heap.size w7 wx)
                  case first =>
                    go_region
                    all_goals
                      go_wp2_with fail
                      go_meet
                      refine ⟨_, rfl, Nat.le_refl _, ?_, (by repeat (first | with_reducible exact Below.refl _ _ | with_reducible assumption | with_reducible refine Below.drew ?_ | with_reducible refine below_drewN ?_ _ | with_reducible refine Below.alloc ?_ (by first | omega | (simp; done) | (simp; omega)) _ | with_reducible refine Below.setCell ?_ (by first | omega | (simp; done) | (simp; omega)) _))⟩
                      first | exact (heap_alloc_if _ _ _).trans (if_pos rfl) | (rw [heap_alloc_if, if_pos (by simp)]; rfl) | (show (World.alloc _ _).heap[_]? = _; rw [heap_alloc_if, if_pos (by simp)]; rfl)
                  case rest =>
                    obtain ⟨q, rfl, hq7, R8, b8⟩ := hcut
                    obtain ⟨w8, hw8⟩ : ∃ x, x = wc := ⟨_, rfl⟩
                    subst hw8
                    clear c0 c1 c2 c3 c4 c5 c6 c7 c8 c9 c10 c11 c12 c13 q0 q1
                    have S8 := (b8.block _ (lt_of_heap HI7.out.sh)).trans HI7.out.sh
                    have B8 := (b8.block _ hl7).trans HI7.out.box
                    have s0 := cell_of_row w8 _ 0 _ _ _ S8
                    have s1 := cell_of_row w8 _ 1 _ _ _ S8
                    have hls8 := lt_of_heap S8
                    have hlq8 := lt_of_heap R8
                    obtain ⟨x1, x2, x3, x4, x5, x6, x7, x8, x9, x10, x11, x0, x12, x13⟩ := row_story R8
                    have HB8 := hid B8
                    have HR8 := hid R8
                    have O8 : Old2 lo p p w w8 := HI7.out.old.more b8 hlo7
                    have HO8 := hid O8
                    have hlo8 : lo ≤ w8.heap.size := Nat.le_trans hlo7 b8.size
                    have hxm : x ∈ xs := by rw [HX.out]; exact picks_mem (List.getElem_mem hlt)
                    have HRAW := hid (HP.out.sts.each x hxm)
                    have HSL := hid (HP.out.slim x hxm)
                    clear S8 B8 R8 O8 hxm
                    go_wp2_with fail
                    refine (refap_item S PA pc QA qc x.s.c x.g _ ((HP.out.sh.old HO8.out).in_) ?_ ?_ ((HRAW.out.call.below HO8.out.below).more hlo8) ?_).mono ?_
                    · have := HP.out.small.pl; have := cntD_le (picks xs).length d; omega
                    · have := HP.out.small.ql; have := cntD_le (picks xs).length d; omega
                    · intro z hz
                      obtain ⟨g', hg'⟩ := HRAW.out.deep z hz
                      exact ⟨g', (hg'.below HO8.out.below).more hlo8⟩
                    rintro e w9 ⟨PX, px, QX, qx, RX, rx, HX', hx, rfl, hsh9, -, hrl, hrm, hH9, hhl, hhm, b9⟩
                    have hlq9 : q < w9.heap.size := Nat.lt_of_lt_of_le hlq8 b9.size
                    have R9 := (b9.block _ hlq8).trans HR8.out
                    have HSH9 := hid hsh9
                    have HH9 := hid hH9
                    have B9 := hid ((b9.block _ (lt_of_heap HB8.out)).trans HB8.out)
                    have O9 := hid (HO8.out.more b9 hlo8)
                    have hlo9 : lo ≤ w9.heap.size := Nat.le_trans hlo8 b9.size
                    clear x0 x1 x2 x3 x4 x5 x6 x7 x8 x9 x10 x11 x12 x13 s0 s1 hsh9 hH9
                    obtain ⟨x1, x2, x3, x4, x5, x6, x7, x8, x9, x10, x11, x0, x12, x13⟩ := row_story R9
                    have HR9 := hid R9
                    clear R9
                    obtain ⟨a, ha⟩ : ∃ a, a = apA x.s.c x.g S := ⟨_, rfl⟩
                    obtain ⟨T, hT⟩ : ∃ T, T = apS x.s.c x.g S := ⟨_, rfl⟩
                    rw [← ha] at hrl hhl HH9 ⊢
                    rw [← hT] at HSH9 ⊢
                    have HAA := hid ha
                    have HTT := hid hT
                    clear ha hT
                    go_upto_region 15 with fail
                    generalize hw10 : World.alloc (World.alloc w9 _) _ = w10
                    have T10 : w10.heap[w9.heap.size]? = some (.cells #[.slice PX T.pairs.length px, .slice QX T.queue.length qx] 25 (0, 0)) := by rw [← hw10]; exact (Below.heap_alloc _ _ _ (by simp)).trans ((heap_alloc_if _ _ _).trans (if_pos rfl))
                    have A10 : w10.heap[w9.heap.size + 1]? = some (.cells #[.int .i64 a.code, .bool a.found, .string a.value, .slice RX a.pairs.length rx, .slice HX' a.hits.length hx, .int .u64 0] 50 (0, 0)) := by rw [← hw10]; exact (heap_alloc_if _ _ _).trans (by rw [if_pos (by simp)])
                    have b10 : Below w9.heap.size w9 w10 := by rw [← hw10]; exact ((Below.refl _ _).alloc (Nat.le_refl _) _).alloc (by simp) _
                    have Q10 := (b10.block _ hlq9).trans HR9.out
                    have HT10 := hid T10
                    have HB10 := hid ((b10.block _ (lt_of_heap B9.out)).trans B9.out)
                    have HO10 := hid (O9.out.more b10 hlo9)
                    have hlo10 : lo ≤ w10.heap.size := Nat.le_trans hlo9 b10.size
                    have HQ10 := hid Q10
                    have z0 := cell_of_row w10 _ 0 _ _ _ A10
                    have z1 := cell_of_row w10 _ 1 _ _ _ A10
                    have z2 := cell_of_row w10 _ 2 _ _ _ A10
                    have z3 := cell_of_row w10 _ 3 _ _ _ A10
                    have z4 := cell_of_row w10 _ 4 _ _ _ A10
                    have z5 := cell_of_row w10 _ 5 _ _ _ A10
                    have hlz := lt_of_heap A10
                    have hlq10 := lt_of_heap Q10
                    clear x0 x1 x2 x3 x4 x5 x6 x7 x8 x9 x10 x11 x12 x13 hw10 T10 A10
                    obtain ⟨x1, x2, x3, x4, x5, x6, x7, x8, x9, x10, x11, x0, x12, x13⟩ := row_story Q10
                    clear Q10
                    have TD : ∀ W, Below w10.heap.size w10 W → Calls Tryz.prog 31 #[.agg #[.int .i64 x.s.code, .bool x.s.fd, .string x.s.vl, .slice x.s.pA x.s.pn x.s.pc, .slice x.s.hA x.s.hn x.s.hc, .int .u64 x.s.ep], .agg #[.int .i64 a.code, .bool a.found, .string a.value, .slice RX a.pairs.length rx, .slice HX' a.hits.length hx, .int .u64 0]] W fun e w' => e = .returned (.bool (toldB x.s x.hs a)) ∧ Below W.heap.size W w' := fun W hW => by
                      obtain ⟨ps, hans⟩ := HRAW.out.ans
                      exact told_any x.s x.hs a RX rx HX' hx W ((hans.harr.below (HO10.out.below.trans (hW.mono hlo10))).more (Nat.le_trans hlo10 hW.size)) hans.hlen ((HH9.out.below (b10.trans (hW.mono b10.size))).more (Nat.le_trans b10.size hW.size)) (by have := HSL.out.hits; rw [hans.hlen] at this; omega)
                    go_cut [118] (fun v118 wx => ∃ b : Bool, v118 = .bool b ∧ Below w10.heap.size w10 wx ∧ Hid (b = !x.ok S))
                    case first =>
                      by_cases hen : x.s.en < 0
                      · have hge : ¬ 0 ≤ x.s.en := by omega
                        have hok : x.ok S = true := by unfold Item.ok answeredB; rw [decide_eq_true hen]; rfl
                        have HOK := hid (show false = !x.ok S by rw [hok]; rfl)
                        clear hen hok
                        go_wp2_with fail
                        go_meet
                        exact ⟨false, rfl, Below.refl _ _, HOK⟩
                      · have hge : 0 ≤ x.s.en := by omega
                        have htb : toldB x.s x.hs a = x.ok S := by rw [HAA.out]; exact toldB_ok hen
                        rw [htb] at TD
                        clear hen htb
                        go_wp2_with fail
                        refine (TD _ (Below.refl _ _)).mono ?_
                        rintro e wT ⟨rfl, bT⟩
                        cases hok : x.ok S with
                        | true =>
                          go_wp2_with fail
                          go_meet
                          exact ⟨false, rfl, bT, hid (by rw [hok]; rfl)⟩
                        | false =>
                          go_wp2_with fail
                          go_meet
                          exact ⟨true, rfl, bT, hid (by rw [hok]; rfl)⟩
                    case rest =>
                      obtain ⟨bo, rfl, b11, hbo⟩ := hcut
                      obtain ⟨w11, hw11⟩ : ∃ x, x = wc := ⟨_, rfl⟩
                      subst hw11
                      have I7to : Below w7.heap.size w7 w11 := b8.trans ((b9.trans ((b10.trans (b11.mono b10.size)).mono b9.size)).mono b8.size)
                      clear x0 x1 x2 x3 x4 x5 x6 x7 x8 x9 x10 x11 x12 x13 z0 z1 z2 z3 z4 z5 TD
                      cases bo with
                      | true =>
                        have HNK : Hid (¬ LeadsBy (picks xs) must d S k) := hid fun ⟨hk', _, hok, _⟩ => by
                          rw [← HX.out] at hok
                          have := hbo.out
                          rw [hok] at this
                          cases this
                        clear hbo
                        go_wp2_with fail
                        exact ⟨⟨k + 1, m - 1, by omega, by go_num, HI7.out.skip I7to hlo7 (fun _ => HNK.out)⟩, by simp [intOf]; omega⟩
                      | false =>
                        have HOK : Hid (x.ok S = true) := hid (by have := hbo.out; cases h : x.ok S with | true => rfl | false => rw [h] at this; cases this)
                        clear hbo
                        have HO11 := hid (HI7.out.old.more I7to hlo7)
                        have hd12 : ds.length ≤ 12 := by have := HDL.out; have := HP.out.len; omega
                        have HDA := hid ((HP.out.done.old HO11.out).arr)
                        have HD12 := hid hd12
                        clear hd12
                        go_upto_region 17 with (at_builtin; refine app_bit (l := []) (m := ds) (A := none) (c := 0) (lo := w11.heap.size) _ rfl (.const (.slice none 0 0)) (.tmp 119) (by first | rfl | simp [Act.eval]) (by first | rfl | simp [Act.eval]) Own.none_ dc (by first | rfl | simp [Act.eval]) HDA.out (by have := HD12.out; simp; omega) (Nat.le_refl _) ?_; intro AN cN w12 hownN hgrN hlocN; rw [List.nil_append] at hownN)
                        have hkds : k < ds.length := by have := HDL.out; omega
                        have HOWNN := hid hownN
                        rcases hownN.2.2 with h0 | ⟨nb, no, cur, rfl, hnb, hnh, hns, hnc⟩
                        · exact absurd hownN.len (by omega)
                        have n0 : w12.cell? ⟨nb, no + k, none⟩ = some (.bool ds[k]) := by
                          rw [cell_of_row w12 nb (no + k) _ _ _ hnh]
                          exact hnc k _ (by rw [flat_bit, List.getElem?_map, List.getElem?_eq_getElem hkds]; rfl)
                        have nf := frozen_of_row w12 nb (no + k) _ _ hnh
                        have hnl := lt_of_heap hnh
                        have hkdi : (k : Int) < (ds.length : Int) := by omega
                        have HNH := hid hnh
                        clear hownN hnh hnc hns
                        go_upto_region 18 with fail
                        have HDS := hid (HOWNN.out.setBit hkds true)
                        obtain ⟨w13, hw13⟩ : ∃ w13, w13 = w12.setCell ⟨nb, no + k, none⟩ (.bool true) := ⟨_, rfl⟩
                        rw [← hw13] at HDS ⊢
                        have b13 : Below w11.heap.size w11 w13 := by rw [hw13]; exact (belowG hgrN (Below.refl _ _)).setCell hnb _
                        have I13 : Below w7.heap.size w7 w13 := I7to.trans (b13.mono I7to.size)
                        have B13 := (I13.block _ hl7).trans HI7.out.box
                        have T11 := (b11.block _ (lt_of_heap HT10.out)).trans HT10.out
                        have T13 := (b13.block _ (lt_of_heap T11)).trans T11
                        have u0 := cell_of_row w13 _ 0 _ _ _ T13
                        have u1 := cell_of_row w13 _ 1 _ _ _ T13
                        have v1 := cell_of_row w13 _ 1 _ _ _ B13
                        rw [HPL.out] at v1
                        have hlT := lt_of_heap T13
                        have hlP := lt_of_heap B13
                        have hlo13 : lo ≤ w13.heap.size := Nat.le_trans hlo7 I13.size
                        have hpb13 : pb < w13.heap.size := Nat.lt_of_lt_of_le hpb I13.size
                        have pk13 := (I13.cell (p := ⟨pb, po + k, none⟩) hpb).trans pk
                        have HO13 := hid (HI7.out.old.more I13 hlo7)
                        have hxk : ∃ hk : k < (picks xs).length, x = (picks xs)[k] := ⟨hlt, HX.out⟩
                        have HXK := hid hxk
                        have h9to13 : Below w9.heap.size w9 w13 := b10.trans ((b11.trans (b13.mono b11.size)).mono b10.size)
                        have hsh13 : ShX p p w13 PX px QX qx (apS x.s.c x.g S) := by
                          rw [← HTT.out]
                          have hi := (HSH9.out.below h9to13).more h9to13.size
                          exact ⟨ArrX.of_str hi.pairs (fun y => ⟨_, rfl⟩) B13 (fun s h => by cases h) (fun s h => by cases h), hi.plen, hi.pmax, ArrX.of_str hi.queue (fun y => ⟨_, rfl⟩) B13 (fun s h => by cases h) (fun s h => by cases h), hi.qlen, hi.qmax⟩
                        have hrow13 := (HP.out.rows.old HO13.out).arr
                        have HROW := hid hrow13
                        have REC : Hid (∀ (W : World) (R' : Option Addr) (rc' : Nat), Below w13.heap.size w13 W → Own numE 3 1 W w13.heap.size R' rc' (row ++ [mk]) → Calls Tryz.prog 21 #[.pointer (some ⟨p, 0, none⟩), .agg #[.slice PX T.pairs.length px, .slice QX T.queue.length qx], .slice (some ⟨nb, no, none⟩) ds.length cN, .slice R' (row.length + 1) rc'] W (GivesGo lo p xs must A c PL pl (d ||| 1 <<< k) T (row ++ [mk]) (m - 1) W)) := hid fun W R' rc' hW hown => by
                          have hst : Below w7.heap.size w7 W := I13.trans (hW.mono I13.size)
                          have hpre := GoPre.next HP.out HI7.out hst hlo7 HFK.out HXK.out (hsh13.old (Old2.of_below (lo := lo) hW hlo13)) (D' := some ⟨nb, no, none⟩) (dc' := cN) ((ArrX.of_own (p := p) (q := p) (by intro y; rfl) HDS.out (Nat.lt_of_lt_of_le hl7 I7to.size) (Nat.lt_of_lt_of_le hl7 I7to.size)).old (Old2.of_below (lo := lo) hW hlo13)) ⟨by have := HOWNN.out.len; exact this, HOWNN.out.max⟩ (mk := mk) (R' := R') (rc' := rc') (ArrX.of_own numE_len hown hlP hlP) ⟨hown.len, hown.max⟩
                          have hrec := HIH.out _ (by rw [← hn]; exact HP.out.less HFK.out) _ _ _ _ _ _ _ _ _ _ _ _ _ _ rfl hpre
                          rw [List.length_set, List.length_append, ← HTT.out] at hrec
                          exact hrec
                        clear T11 T13 B13 hsh13 hrow13 n0 nf hxk hw13 pk hgrN hlocN
                        obtain ⟨i0, hi0, hz0, hz1, hz2⟩ := info_parts info_int
                        have HII := hid hi0
                        have HZ0 := hid hz0
                        have HZ1 := hid hz1
                        have HZ2 := hid hz2
                        have hrow12 : row.length ≤ 12 := by have := HP.out.rowl; have := cntD_le (picks xs).length d; omega
                        have hneT : w9.heap.size ≠ p := by have := b8.size; have := b9.size; omega
                        have hneP : pb ≠ p := HP.out.at'.ne k1 HPL.out
                        have HPV : Hid (Value.slice PL (places xs).length pl = .slice (some ⟨pb, po, none⟩) (places xs).length pl) := hid (by rw [HPL.out])
                        have hm1 : 0 + row.length ≤ maxLen := by unfold maxLen; omega
                        have hm2 : (0 + row.length) * 8 ≤ 140737488355328 := by omega
                        have hm3 : row.length + 1 ≤ maxLen := by unfold maxLen; omega
                        have hm4 : (row.length + 1) * 8 ≤ 140737488355328 := by omega
                        have HM5 := hid (And.intro hm1 (And.intro hm2 (And.intro hm3 hm4)))
                        clear hi0 hz0 hz1 hz2 hrow12 hm1 hm2 hm3 hm4
                        go_cut [17, 18] (fun v17 v18 wx => ∃ (W : World) (left' : Nat) (r : List Nat) (R : Option Addr) (rc : Nat) (ok : Bool), v17 = .slice R r.length rc ∧ v18 = .bool ok ∧ Below w13.heap.size w13 W ∧ Hid (Old2 lo p p W wx ∧ left' ≤ m - 1 ∧ wx.heap[p]? = some (.cells #[.slice A xs.length c, .slice PL (places xs).length pl, .int .i64 (left' : Int)] 62 (0, 0)) ∧ ArrX numE 1 p p wx R r ∧ r.length ≤ rc ∧ rc ≤ 9223372036854775807 ∧ r.length ≤ 12 ∧ (0 < left' → (ok = true → ∃ T', Least (picks xs) must (d ||| 1 <<< k) T T' ∧ r = (row ++ [mk]) ++ told xs T') ∧ (ok = false → ¬ Leads (picks xs) must (d ||| 1 <<< k) T ∧ r = []))))
                        case first =>
                          clear HP HIH HDL HR1 HNF HI HALL HFR hbF stF HFK HBF HI7 HA HX HZ7 HB8 HR8 HO8 HRAW HSL HXK HMK HO13 HDA HD12 HNH HOK HTT HAA HO11 HB10 HO10 HQ10 HT10 HSH9 HH9 B9 O9 HR9 HDS HOWNN hn hkl hls hltp hl12 hlop hlo hlp hlp' hlo7 hl7 hAb hPb hab hpb hkx hq7 hls8 hlq8 hlo8 hrl hrm hhl hhm hlq9 hlo9 b8 b9 b10 b11 I7to b13 I13 h9to13 hlo13 hnb hnl hkds hlz hlq10 hlo10
                          go_region_held3 (fun W => W.cell? ⟨w9.heap.size, 0, none⟩ = some (.slice PX T.pairs.length px) ∧ W.cell? ⟨w9.heap.size, 1, none⟩ = some (.slice QX T.queue.length qx) ∧ W.cell? ⟨p, 1, none⟩ = some (.slice (some ⟨pb, po, none⟩) (places xs).length pl) ∧ W.cell? ⟨pb, po + k, none⟩ = some (.int .i64 mk)) (first | exact hKeep | exact keep4G (W := w13) (by repeat (first | with_reducible exact Below.refl _ _ | with_reducible assumption | with_reducible refine Below.drew ?_ | with_reducible refine below_drewN ?_ _ | with_reducible refine Below.alloc ?_ (by first | omega | (simp; done) | (simp; omega)) _ | with_reducible refine Below.setCell ?_ (by first | omega | (simp; done) | (simp; omega)) _)) hlT hlP hpb13 ⟨u0, u1, v1, pk13⟩) (first | (refine step_append_Own (l := []) (m := row) (A := none) (c := 0) (lo := w13.heap.size) (B := w13.heap.size) _ (by rfl) (.const (.slice none 0 0)) (.tmp 128) 30 (by rfl) i0 _ 8 Tryz.underlying30 HII.out HZ0.out HZ1.out HZ2.out rfl (by decide) numE_len numE_one (by rfl) Own.none_ rc (by rfl) (HROW.out.below (by repeat (first | with_reducible exact Below.refl _ _ | with_reducible assumption | with_reducible refine Below.drew ?_ | with_reducible refine below_drewN ?_ _ | with_reducible refine Below.alloc ?_ (by first | omega | (simp; done) | (simp; omega)) _ | with_reducible refine Below.setCell ?_ (by first | omega | (simp; done) | (simp; omega)) _))) HM5.out.1 HM5.out.2.1 (show Below w13.heap.size w13 _ from (by repeat (first | with_reducible exact Below.refl _ _ | with_reducible assumption | with_reducible refine Below.drew ?_ | with_reducible refine below_drewN ?_ _ | with_reducible refine Below.alloc ?_ (by first | omega | (simp; done) | (simp; omega)) _ | with_reducible refine Below.setCell ?_ (by first | omega | (simp; done) | (simp; omega)) _))).size ?_; intro AR cR wR hownR hgrR hlocR; have stR : Below w13.heap.size w13 wR := belowG hgrR (by repeat (first | with_reducible exact Below.refl _ _ | with_reducible assumption | with_reducible refine Below.drew ?_ | with_reducible refine below_drewN ?_ _ | with_reducible refine Below.alloc ?_ (by first | omega | (simp; done) | (simp; omega)) _ | with_reducible refine Below.setCell ?_ (by first | omega | (simp; done) | (simp; omega)) _)); have zR := stR.size; have hRow := hownR.rowLo; rw [List.nil_append] at hownR) | (refine step_append_Own (l := row) (m := [mk]) (A := AR) (c := cR) (lo := w13.heap.size) _ (by rfl) (.tmp 129) (.tmp 137) 30 (by rfl) i0 _ 8 Tryz.underlying30 HII.out HZ0.out HZ1.out HZ2.out rfl (by decide) numE_len numE_one (by first | rfl | simp [Act.eval]) (by repeat (first | with_reducible assumption | with_reducible refine Own.drew ?_ | with_reducible refine Own.alloc ?_ _)) 1 (by first | rfl | simp [Act.eval]) (arr_oneNum (by first | (rw [heap_alloc_if, if_pos (by simp)]; done) | (rw [heap_alloc_if, if_pos (by simp)]; rfl) | exact (hgrR.block w13.heap.size (by simp) (by simp [rowOf])).trans ((heap_alloc_if _ _ _).trans (if_pos rfl)))) HM5.out.2.2.1 HM5.out.2.2.2 (show Below w13.heap.size w13 _ from (by repeat (first | with_reducible exact Below.refl _ _ | with_reducible assumption | with_reducible refine Below.drew ?_ | with_reducible refine below_drewN ?_ _ | with_reducible refine Below.alloc ?_ (by first | omega | (simp; done) | (simp; omega)) _ | with_reducible refine Below.setCell ?_ (by first | omega | (simp; done) | (simp; omega)) _))).size ?_; intro AF cF wF2 hownF hgrF hlocF; have stF2 : Below w13.heap.size w13 wF2 := (show Below w13.heap.size w13 _ from (by repeat (first | with_reducible exact Below.refl _ _ | with_reducible assumption | with_reducible refine Below.drew ?_ | with_reducible refine below_drewN ?_ _ | with_reducible refine Below.alloc ?_ (by first | omega | (simp; done) | (simp; omega)) _ | with_reducible refine Below.setCell ?_ (by first | omega | (simp; done) | (simp; omega)) _))).grown hgrF (show Below w13.heap.size w13 _ from (by repeat (first | with_reducible exact Below.refl _ _ | with_reducible assumption | with_reducible refine Below.drew ?_ | with_reducible refine below_drewN ?_ _ | with_reducible refine Below.alloc ?_ (by first | omega | (simp; done) | (simp; omega)) _ | with_reducible refine Below.setCell ?_ (by first | omega | (simp; done) | (simp; omega)) _))).size hRow; have zF2 := stF2.size) | (go_at_call 21; refine (REC.out _ AF cF (by repeat (first | with_reducible exact Below.refl _ _ | with_reducible assumption | with_reducible refine Below.drew ?_ | with_reducible refine below_drewN ?_ _ | with_reducible refine Below.alloc ?_ (by first | omega | (simp; done) | (simp; omega)) _ | with_reducible refine Below.setCell ?_ (by first | omega | (simp; done) | (simp; omega)) _)) (by first | with_reducible exact hownF | with_reducible exact hownF.drew)).mono ?_; rintro e wG ⟨hOG, lG, rG, RG, rcG, okG, rfl, hG⟩; have hKeep := keep4R (w := w13) (by repeat (first | with_reducible exact Below.refl _ _ | with_reducible assumption | with_reducible refine Below.drew ?_ | with_reducible refine below_drewN ?_ _ | with_reducible refine Below.alloc ?_ (by first | omega | (simp; done) | (simp; omega)) _ | with_reducible refine Below.setCell ?_ (by first | omega | (simp; done) | (simp; omega)) _)) hOG hlT hneT hpb13 hneP hG.2.1 HPV.out ⟨u0, u1, v1, pk13⟩) | fail)
                          all_goals
                            go_wp2_with fail
                            go_meet
                            exact ⟨_, lG, rG, RG, rcG, okG, rfl, rfl, (by repeat (first | with_reducible exact Below.refl _ _ | with_reducible assumption | with_reducible refine Below.drew ?_ | with_reducible refine below_drewN ?_ _ | with_reducible refine Below.alloc ?_ (by first | omega | (simp; done) | (simp; omega)) _ | with_reducible refine Below.setCell ?_ (by first | omega | (simp; done) | (simp; omega)) _)), hid ⟨hOG, hG⟩⟩
                        case rest =>
                          obtain ⟨W, left', r, R, rc', ok, rfl, rfl, bW, hG⟩ := hcut
                          obtain ⟨w14, hw14⟩ : ∃ x, x = wc := ⟨_, rfl⟩
                          subst hw14
                          have hst : Below w7.heap.size w7 W := I13.trans (bW.mono I13.size)
                          have hwp : w.heap.size ≠ p := by omega
                          clear u0 u1 v1 pk13 REC HROW HII HZ0 HZ1 HZ2 HM5 HPV
                          cases ok with
                          | true =>
                            go_wp2_with fail
                            go_ret2
                            obtain ⟨hO, hle, hbox, hr, hrc1, hrc2, hr12, hans⟩ := hG.out
                            refine ⟨(HI7.out.old.more hst hlo7).trans hO, left', r, R, rc', true, rfl, Nat.le_trans hle HI7.out.le, hbox, hr, hrc1, hrc2, hr12, fun hm => ⟨fun _ => ?_, fun h => by cases h⟩⟩
                            have hT := (hans hm).1 (by simp)
                            rw [HTT.out] at hT
                            exact HI7.out.found (by omega) HFK.out HXK.out HOK.out HNF.out HMK.out hT
                          | false =>
                            have HN := hid (HI7.out.fail hst hlo7 hwp hG.out.2.1 hG.out.1 hG.out.2.2.1 HXK.out (fun hm => by
                              have h1 := ((hG.out.2.2.2.2.2.2.2 hm).2 rfl).1
                              rw [HTT.out] at h1
                              exact h1))
                            clear hG
                            go_wp2_with fail
                            exact ⟨⟨k + 1, left', by omega, by go_num, HN.out⟩, by simp [intOf]; omega⟩
          · obtain rfl : k = (picks xs).length := by omega
            have hnl : ¬ (((picks xs).length : Nat) : Int) < (((places xs).length : Nat) : Int) := by rw [places_len]; omega
            go_wp2_with fail
            go_ret2
            refine ⟨HI.out.old, m, [], none, 0, false, rfl, HI.out.le, HI.out.box, .inl rfl, Nat.le_refl _, by omega, by simp, fun hm => ⟨fun h => (by cases h), fun _ => ⟨fun hl => ?_, rfl⟩⟩⟩
            rcases leads_iff.1 hl with h | ⟨j, hj⟩
            · exact HNF.out h
            · exact HI.out.no hm j hj.1 hj
end Go.Proofs.YtamcehfcjcmpmaaGreatDoor
