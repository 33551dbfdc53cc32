/- fuseeref25.free: may the i-th counted one stand next? -/
import Derived.Test.YtamcehfcjcmpmaaGreatDoorZtf
import Derived.StillTailTactics
namespace Go.Proofs.YtamcehfcjcmpmaaGreatDoor
open Go.RowKit

theorem place_at (xs : List Item) {j : Nat} (h : j < (picks xs).length) : ∃ (h1 : j < (places xs).length) (_h2 : (places xs)[j] < xs.length) (h3 : (places xs)[j] < (stories xs).length), (stories xs)[(places xs)[j]] = (picks xs)[j].s := by
  have h1 : j < (places xs).length := by rw [places_len]; exact h
  have h2 := places_get xs h
  rw [List.getD_eq_getElem?_getD, List.getElem?_eq_getElem h1] at h2
  obtain ⟨h3, h4⟩ := List.getElem?_eq_some_iff.1 h2
  refine ⟨h1, h3, by simp [stories]; exact h3, ?_⟩
  have h5 : (stories xs)[(places xs)[j]]'(by simp [stories]; exact h3) = (xs[(places xs)[j]]'h3).s := by simp [stories]
  rw [h5]
  exact congrArg Item.s h4
/-- what is done, as bits -/
def DoneIs (L : List Item) (d : Nat) (ds : List Bool) : Prop := ds.length = L.length ∧ ∀ j (h : j < ds.length), ds[j] = d.testBit j
def GivesFree (L : List Item) (d i : Nat) (w : World) (e : Ending) (w' : World) : Prop := ∃ r, e = .returned (.bool r) ∧ Below w.heap.size w w' ∧ (r = true ↔ freeAt L d i)
set_option maxHeartbeats 2000000 in
set_option maxRecDepth 100000 in
theorem free_any (xs : List Item) (A : Option Addr) (c : Nat) (PL : Option Addr) (pl : Nat) (ds : List Bool) (D : Option Addr) (dc : Nat) (d i : Nat) (w : World) (hA : Arr Story.enc 14 w w.heap.size A (stories xs)) (hP : Arr numE 1 w w.heap.size PL (places xs)) (hD : Arr bit 1 w w.heap.size D ds) (hds : DoneIs (picks xs) d ds) (hi : i < (picks xs).length) (hl : xs.length ≤ 1000) (hself : ∀ x ∈ picks xs, befB x.s x.s = false) :
    Calls Tryz.prog 29 #[.slice A xs.length c, .slice PL (places xs).length pl, .slice D ds.length dc, .int .i64 i] w (GivesFree (picks xs) d i w) := by
  have HA := hid hA
  have HP := hid hP
  have HD := hid hD
  have HDS := hid hds
  have HSF := hid (hself _ (List.getElem_mem hi))
  have hpl := places_len xs
  have hdl := hds.1
  have hid' : i < ds.length := by omega
  obtain ⟨db, dof, hD1, hDb, di⟩ := hD.bit1 hid'
  simp only [Nat.mul_one] at di
  have hpk := picks_len xs
  rw [hds.2 i hid'] at di
  have hki : (i : Int) < (ds.length : Int) := by omega
  have HD1 := hid hD1
  have hdb : db < w.heap.size := hDb
  clear hA hP hD hds hself
  subst hD1
  by_cases hdi : d.testBit i = true
  · rw [hdi] at di
    have HNO : Hid (¬ freeAt (picks xs) d i) := hid fun ⟨_, h, _⟩ => by rw [hdi] at h; cases h
    clear hdi
    go_enter Tryz.func29, Tryz.ntmps29
    go_wp2_with fail
    go_ret
    exact ⟨false, rfl, (by repeat (first | exact Below.refl _ _ | assumption | refine Below.drew ?_ | refine below_drewN ?_ _ | refine Below.alloc ?_ (by first | omega | (simp; done) | (simp; omega)) _ | refine Below.setCell ?_ (by first | omega | (simp; done) | (simp; omega)) _)), fun h => (by cases h), fun h => absurd h HNO.out⟩
  have hdi' : d.testBit i = false := by simpa using hdi
  rw [hdi'] at di
  have HDI := hid hdi'
  clear hdi hdi'
  go_enter Tryz.func29, Tryz.ntmps29
  go_wp2_with fail
  go_loopw [9] (fun v9 wr => ∃ k : Nat, k ≤ (picks xs).length ∧ v9 = .int .i64 k ∧ Below w.heap.size w wr ∧ Hid (∀ j (h : j < (picks xs).length), j < k → d.testBit j = false → befB (picks xs)[j].s (picks xs)[i].s = false)) (fun v9 _ => (picks xs).length - (intOf v9).toNat)
  case atStart => exact ⟨0, Nat.zero_le _, rfl, (by repeat (first | exact Below.refl _ _ | assumption | refine Below.drew ?_ | refine below_drewN ?_ _ | refine Below.alloc ?_ (by first | omega | (simp; done) | (simp; omega)) _ | refine Below.setCell ?_ (by first | omega | (simp; done) | (simp; omega)) _)), hid fun _ _ h => absurd h (by omega)⟩
  case round =>
    obtain ⟨k, hkl, rfl, hb, hfr⟩ := hrel
    have hsz := hb.size
    by_cases hlt : k < (picks xs).length
    · have hkd : k < ds.length := by omega
      obtain ⟨db', dof', hD2, -, dk⟩ := (HD.out.below hb).bit1 hkd
      cases hD2
      simp only [Nat.mul_one] at dk
      rw [HDS.out.2 k hkd] at dk
      have hdb2 : db < wr.heap.size := Nat.lt_of_lt_of_le hdb hsz
      have hkk : (k : Int) < (ds.length : Int) := by omega
      have hkp : (k : Int) < ((places xs).length : Int) := by omega
      by_cases hdk : d.testBit k = true
      · rw [hdk] at dk
        have HF : Hid (∀ j (h : j < (picks xs).length), j < k + 1 → d.testBit j = false → befB (picks xs)[j].s (picks xs)[i].s = false) := hid fun j h hj hf => by
          rcases (by omega : j < k ∨ j = k) with h2 | rfl
          · exact hfr.out j h h2 hf
          · rw [hdk] at hf; cases hf
        clear hdk hfr
        go_wp2_with fail
        go_quiet (fail)
        go_wp2_with fail
        exact ⟨⟨k + 1, by omega, by go_num, below_drewN hb _, HF⟩, by simp [intOf]; omega⟩
      · have hdk' : d.testBit k = false := by simpa using hdk
        rw [hdk'] at dk
        obtain ⟨k1, k2, k3, ek⟩ := place_at xs hlt
        obtain ⟨i1, i2, i3, ei⟩ := place_at xs hi
        obtain ⟨pb, po, hP1, hPb, pk⟩ := (HP.out.below hb).numE1 k1
        obtain ⟨pb', po', hP2, -, pi⟩ := (HP.out.below hb).numE1 i1
        rw [hP1] at hP2
        cases hP2
        obtain ⟨ab, ao, hA1, hAb, sk⟩ := (HA.out.below hb).story k3
        obtain ⟨ab', ao', hA2, -, si⟩ := (HA.out.below hb).story i3
        rw [hA1] at hA2
        cases hA2
        rw [ek] at sk
        rw [ei] at si
        have hpb : pb < wr.heap.size := by omega
        have hab : ab < wr.heap.size := by omega
        subst hP1
        subst hA1
        obtain ⟨x, hx⟩ : ∃ x, x = (picks xs)[k].s := ⟨_, rfl⟩
        obtain ⟨y, hy⟩ : ∃ y, y = (picks xs)[i].s := ⟨_, rfl⟩
        rw [← hx] at sk
        rw [← hy] at si
        have hkx : ((places xs)[k] : Int) < (xs.length : Int) := by omega
        have hix : ((places xs)[i] : Int) < (xs.length : Int) := by omega
        have hip : (i : Int) < ((places xs).length : Int) := by omega
        have HXY := hid (And.intro hx hy)
        have HDK := hid hdk'
        clear hx hy ek ei k2 i2 k3 i3 hdk hdk'
        generalize (places xs)[k] = mk at *
        generalize (places xs)[i] = mi at *
        obtain ⟨c0, c1, c2, c3, c4, c5, c6, c7, c8, c9, c10, c11, c12, c13⟩ := sk
        obtain ⟨e0, e1, e2, e3, e4, e5, e6, e7, e8, e9, e10, e11, e12, e13⟩ := si
        go_wp2_with fail
        go_still_tail 20, (by kernel_rfl)
        go_wp2_with fail
        refine (before24 x y _).mono ?_
        rintro e wB ⟨rfl, hbB⟩
        have st : Below w.heap.size w wB := hb.trans (Below.trans (show Below w.heap.size wr wr.drew from (by repeat (first | exact Below.refl _ _ | assumption | refine Below.drew ?_ | refine below_drewN ?_ _ | refine Below.alloc ?_ (by first | omega | (simp; done) | (simp; omega)) _ | refine Below.setCell ?_ (by first | omega | (simp; done) | (simp; omega)) _))) (hbB.mono hsz))
        cases hxy : befB x y with
        | true =>
          have HNO : Hid (¬ freeAt (picks xs) d i) := hid fun ⟨_, _, h⟩ => by
            rcases Nat.decEq k i with h1 | h1
            · have := h k hlt h1 HDK.out
              rw [← HXY.out.1, ← HXY.out.2, hxy] at this
              cases this
            · subst h1
              have h2 := HSF.out
              rw [HXY.out.1, HXY.out.2, h2] at hxy
              cases hxy
          clear hxy hfr
          go_wp2_with fail
          go_ret
          exact ⟨false, rfl, st, fun h => (by cases h), fun h => absurd h HNO.out⟩
        | false =>
          have HF : Hid (∀ j (h : j < (picks xs).length), j < k + 1 → d.testBit j = false → befB (picks xs)[j].s (picks xs)[i].s = false) := hid fun j h hj hf => by
            rcases (by omega : j < k ∨ j = k) with h2 | rfl
            · exact hfr.out j h h2 hf
            · rw [← HXY.out.1, ← HXY.out.2]; exact hxy
          clear hxy hfr
          go_wp2_with fail
          exact ⟨⟨k + 1, by omega, by go_num, st, HF⟩, by simp [intOf]; omega⟩
    · have HYES : Hid (freeAt (picks xs) d i) := hid ⟨hi, HDI.out, fun j h _ hf => hfr.out j h (by omega) hf⟩
      clear hfr
      go_wp2_with fail
      go_ret
      exact ⟨true, rfl, hb, fun _ => HYES.out, fun _ => rfl⟩
end Go.Proofs.YtamcehfcjcmpmaaGreatDoor
