/- audit.Whole and the reference's: do effects of one group stand together, and do all rise? -/
import Derived.Test.YthpegmeebhkhbaaRepI
import Derived.Maps.OwnOps
import Derived.Maps.Views
import Derived.Deep.DeepCutAuto
namespace Go.Proofs.Ythpegmeebhkhbaa
open Go.RowKit Go.Maps

def OkAt (l : List Eff) (i : Nat) (h : i + 1 < l.length) : Prop :=
  (l[i]'(by omega)).ver < l[i + 1].ver ∧ (l[i]'(by omega)).epoch ≤ l[i + 1].epoch ∧ ((l[i]'(by omega)).group = l[i + 1].group → (l[i]'(by omega)).epoch = l[i + 1].epoch) ∧
    ((l[i]'(by omega)).group ≠ l[i + 1].group → ∀ k (hk : k < i), (l[k]'(by omega)).group ≠ l[i + 1].group)
def WholeTo (l : List Eff) (n : Nat) : Prop := ∀ i (h : i + 1 < l.length), i + 1 < n → OkAt l i h
def WholeP (l : List Eff) : Prop := WholeTo l l.length
theorem WholeTo.succ {l : List Eff} {n : Nat} (h : WholeTo l (n + 1)) (hn : n + 1 < l.length) (ho : OkAt l n hn) : WholeTo l (n + 2) := fun i hi hin => by
  by_cases e : i = n
  · subst e; exact ho
  · exact h i hi (by omega)
theorem WholeTo.one (l : List Eff) {n : Nat} (hn : n ≤ 1) : WholeTo l n := fun i _ hin => by omega
theorem WholeTo.all {l : List Eff} {n : Nat} (h : WholeTo l n) (hn : l.length ≤ n) : WholeP l := fun i hi hin => h i hi (by omega)
theorem whole_no {l : List Eff} {n : Nat} (hn : n + 1 < l.length) (ho : ¬ OkAt l n hn) : ¬ WholeP l := fun h => ho (h n hn hn)
def GivesWhole (l : List Eff) (w : World) (e : Ending) (w' : World) : Prop := ∃ r, e = .returned (.bool r) ∧ (r = true ↔ WholeP l) ∧ Below w.heap.size w w'

def cnt (g : Int) (p : List Eff) : Nat := p.countP fun x => decide (x.group = g)
theorem cnt_succ {l : List Eff} {k : Nat} (hk : k < l.length) (g : Int) : cnt g (l.take (k + 1)) = cnt g (l.take k) + if l[k].group = g then 1 else 0 := by
  unfold cnt
  rw [List.take_succ_eq_append_getElem hk, List.countP_append]
  simp [List.countP_cons]
theorem cnt_le (g : Int) (l : List Eff) (k : Nat) : cnt g (l.take k) ≤ k := by
  have h1 : cnt g (l.take k) ≤ (l.take k).length := List.countP_le_length
  rw [List.length_take] at h1
  omega
theorem cnt_pos {g : Int} {l : List Eff} {k : Nat} : 0 < cnt g (l.take k) ↔ ∃ j, ∃ h : j < l.length, j < k ∧ l[j].group = g := by
  unfold cnt
  rw [List.countP_pos_iff]
  constructor
  · rintro ⟨x, hx, hg⟩
    obtain ⟨j, hj, rfl⟩ := List.getElem_of_mem hx
    rw [List.length_take] at hj
    rw [List.getElem_take] at hg
    exact ⟨j, by omega, by omega, by simpa using hg⟩
  · rintro ⟨j, h, hk, hg⟩
    have hj : j < (l.take k).length := by rw [List.length_take]; omega
    refine ⟨(l.take k)[j], List.getElem_mem hj, ?_⟩
    rw [List.getElem_take]
    simpa using hg
def CntIs (D : DataW Unit) (p : List Eff) : Prop := ∀ g : Int, D.atKey (.int .i64 g) (.lit (.int .i64 0)) = .lit (.int .i64 (cnt g p))
theorem CntIs.nil : CntIs (.map []) [] := fun g => by
  simp [cnt, DataW.atKey]
theorem CntIs.put {D : DataW Unit} {l : List Eff} {k : Nat} (hD : IsMap D) (h : CntIs D (l.take k)) (hk : k < l.length) {n : Int} (hn : n = (cnt l[k].group (l.take k) : Int) + 1) : CntIs (D.put (.int .i64 l[k].group) (.lit (.int .i64 n))) (l.take (k + 1)) := by
  subst hn
  intro g
  rw [cnt_succ hk]
  by_cases e : l[k].group = g
  · subst e
    rw [atKey_put_same hD (by trivial), if_pos rfl]
    rfl
  · rw [atKey_put_other (fun h => e (by injection h with _ h; exact h.symm)), if_neg e, h g]
    rfl
theorem isMap_of {w : World} {P : Program} {k : TypeId} {R : Value → Option (DataW Unit × List MemPlace)} {b n : Nat} {D : DataW Unit} (h : w.ownsMap P k R b n D) : IsMap D := by
  obtain ⟨es, clock, _, _, _, rfl⟩ := h
  exact ⟨_, rfl⟩
theorem lit_inj {a b : Int} (h : (DataW.lit (Lit.int .i64 a) : DataW Unit) = .lit (.int .i64 b)) : a = b := by
  injection h with h
  injection h
theorem int_law : Keyed Try.prog 3 := int_keyed Try.underlying3
theorem zero_int (w : World) : (zeroValue 3).run Try.prog w = .ok (.int .i64 0) w := by kernel_rfl
theorem behind {w wr w1 : World} {n m : Nat} {D : DataW Unit} {l : List Eff} {o : Obj} {k : Nat} {v g : Int} (hcnt : CntIs D (l.take (m + 1))) (hD : IsMap D) (hb : Below w.heap.size w wr) (hlt : m + 1 < l.length) (_hn : n < wr.heap.size) (hgx : l[m + 1].group = g)
    (hown1 : w1.ownsMap Try.prog 3 (plainElem Try.prog 3) n k (D.put (.int .i64 g) (.lit (.int .i64 v)))) (hv : v = (cnt g (l.take (m + 1)) : Int) + 1) (hg : (wr.alloc o).grownBy w1 (some n)) (hnw : w.heap.size ≤ n) :
    Hid (w1.ownsMap Try.prog 3 (plainElem Try.prog 3) n k (D.put (.int .i64 g) (.lit (.int .i64 v)))) ∧
    Hid (CntIs (D.put (.int .i64 g) (.lit (.int .i64 v))) (l.take (m + 1 + 1))) ∧ wr.heap.size + 1 ≤ w1.heap.size ∧ Hid (Below w.heap.size w w1) := by
  subst hgx
  have hs := hg.size
  have hbs := hb.size
  simp only [World.size_alloc] at hs
  refine ⟨hid hown1, hid (hcnt.put hD hlt hv), by omega, hid ((hb.alloc (by omega) _).grown hg (by simp; omega) (fun j hj => by cases hj; omega))⟩
theorem cnt_wf {l : List Eff} {k : Nat} (hk : k < l.length) (hl : l.length ≤ 9223372036854775807) (g : Int) : (Lit.int .i64 ((cnt g (l.take k) : Int) + 1)).wf = true := by
  have := cnt_le g l k
  exact WalkArith.wf_i64 (by omega)
set_option maxHeartbeats 4000000 in
set_option maxRecDepth 100000 in
theorem whole_any (l : List Eff) (A : Option Addr) (c : Nat) (w : World) (hA : Arr Eff.enc 7 w w.heap.size A l) (hc : l.length ≤ c) (hm : c ≤ 9223372036854775807) (hwf : ∀ x ∈ l, (Lit.int .i64 x.group).wf = true) :
    Calls Try.prog 28 #[.slice A l.length c] w (GivesWhole l w) := by
  have HA := hid hA
  have HWF := hid hwf
  clear hA hwf
  go_enter Try.func28, Try.ntmps28
  have hmm := @run_makeMap Try.prog
  go_wp2_with fail
  go_loopw [10] (fun vi wr => ∃ (k : Nat) (D : DataW Unit), k ≤ l.length ∧ vi = .int .i64 k ∧ wr.ownsMap Try.prog 3 (plainElem Try.prog 3) w.heap.size k D ∧ Below w.heap.size w wr ∧ WholeTo l k ∧ CntIs D (l.take k)) (fun vi _ => l.length - (intOf vi).toNat)
  case atStart => exact ⟨0, .map [], Nat.zero_le _, rfl, World.ownsMap_made _ _ _ _, (Below.refl _ _).alloc (Nat.le_refl _) _, WholeTo.one l (by omega), CntIs.nil⟩
  case round =>
    obtain ⟨k, D, hkl, rfl, hown, hb, hto, hcnt⟩ := hrel
    have HTO := hid hto
    have HCN := hid hcnt
    have HM := hid (isMap_of hown)
    have HOW := hid hown
    have HB := hid hb
    have hlt0 : w.heap.size < wr.heap.size := hown.lt
    have HK0 := hid hkl
    clear hto hcnt hown hb
    by_cases hlt : k < l.length
    · obtain ⟨b, off, hA1, hB, k0, k1, k2, k3, k4, k5, k6⟩ := (HA.out.below HB.out).eff hlt
      subst hA1
      have hbr : b < wr.heap.size := by omega
      have HKEY := hid (keyOf_int_mk Try.underlying3 (HWF.out _ (List.getElem_mem hlt)))
      have hcK : cnt l[k].group (l.take k) ≤ k := cnt_le _ _ _
      rcases Nat.eq_zero_or_pos k with hk0 | hk0
      · subst hk0
        simp only [Nat.zero_mul, Nat.add_zero] at k0 k1 k2 k3 k4 k5 k6
        go_wp2_with (first | (at_lookup; refine wpList_lookup_own_int _ rfl _ _ 95 rfl 3 3 .i64 int_law Try.underlying95 Try.underlying3 (zero_int _) _ _ _ rfl (HOW.out.alloc _) _ _ rfl HKEY.out ?_; intro c hat hwc) | (at_mapUpdate; refine wpList_mapUpdate_own _ rfl _ _ _ 95 rfl 3 3 int_law Try.underlying95 _ _ _ _ rfl (HOW.out.alloc _) (by unfold maxLen; omega) _ _ _ rfl rfl HKEY.out _ [] (plainElem_int Try.underlying3 (wrap64_wf _)) ?_; intro w1 hown1 hgrow1))
        have hc0 : c = (cnt l[0].group (l.take 0) : Int) := lit_inj (hat.symm.trans (HCN.out l[0].group))
        refine ⟨⟨1, _, by omega, by go_num, hown1, (HB.out.alloc (by omega) _).grown hgrow1 (by simp; omega) (fun j hj => by cases hj; exact Nat.le_refl _), WholeTo.one l (by omega), HCN.out.put HM.out hlt ?_⟩, by simp [intOf]; omega⟩
        rw [hc0]
        exact Go.IntWalk.wrap64_in _ (by simp [cnt])
      · obtain ⟨m, rfl⟩ : ∃ m, k = m + 1 := ⟨k - 1, by omega⟩
        have hml : m < l.length := by omega
        have kk0 : (0 : Int) ≤ (m : Int) := by omega
        have kk1 : (m : Int) < (l.length : Int) := by omega
        have kk2 : (m : Int) + 1 < (l.length : Int) := by omega
        by_cases t1 : l[m + 1].ver ≤ l[m].ver
        · have HNO := hid (whole_no hlt fun h => absurd h.1 (by omega))
          go_wp2_with (first | (at_lookup; refine wpList_lookup_own_int _ rfl _ _ 95 rfl 3 3 .i64 int_law Try.underlying95 Try.underlying3 (zero_int _) _ _ _ rfl (HOW.out.alloc _) _ _ rfl HKEY.out ?_; intro c hat hwc; obtain rfl : c = (cnt l[m + 1].group (l.take (m + 1)) : Int) := lit_inj (hat.symm.trans (HCN.out _))) | (at_mapUpdate; refine wpList_mapUpdate_own _ rfl _ _ _ 95 rfl 3 3 int_law Try.underlying95 _ _ _ _ rfl (HOW.out.alloc _) (by unfold maxLen; omega) _ _ _ rfl rfl HKEY.out _ [] (plainElem_int Try.underlying3 (cnt_wf hlt (by omega) _)) ?_; intro w1 hown1 hgrow1; obtain ⟨HO1, HC1, hz1, HB1⟩ := behind HCN.out HM.out HB.out hlt hlt0 rfl hown1 rfl hgrow1 (Nat.le_refl _); have hz2 : wr.heap.size < w1.heap.size := (by omega); have hb9 : b < w1.heap.size := (by omega); have y4 := (grown_cell hgrow1 (p := ⟨wr.heap.size, 4, none⟩) (by simp) (by simp; omega)).trans (show _ = some (Value.int .u64 l[m + 1].ver) from (by simp [go_sem])); have y5 := (grown_cell hgrow1 (p := ⟨wr.heap.size, 5, none⟩) (by simp) (by simp; omega)).trans (show _ = some (Value.int .u64 l[m + 1].epoch) from (by simp [go_sem])); have y6 := (grown_cell hgrow1 (p := ⟨wr.heap.size, 6, none⟩) (by simp) (by simp; omega)).trans (show _ = some (Value.int .i64 l[m + 1].group) from (by simp [go_sem])); obtain ⟨b2, off2, hA3, hB2, q0, q1, q2, q3, q4, q5, q6⟩ := (HA.out.below HB1.out).eff (i := m) hml; cases hA3; obtain ⟨c2, hrun2, hat2, hwc2⟩ := (HO1.out.alloc (.cells #[.int .i64 l[m].kind, .string l[m].key, .string l[m].val, .int .u64 l[m].id, .int .u64 l[m].ver, .int .u64 l[m].epoch, .int .i64 l[m].group] 86)).lookup_int int_law Try.underlying95 Try.underlying3 (zero_int _) HKEY.out; obtain rfl : c2 = (cnt l[m + 1].group (l.take (m + 1 + 1)) : Int) := lit_inj (hat2.symm.trans (HC1.out _)); clear hgrow1 hown1))
          go_ret
          exact ⟨false, rfl, by simpa using HNO.out, HB1.out.alloc (by have := HB1.out.size; omega) _⟩
        by_cases t2 : l[m + 1].epoch < l[m].epoch
        · have HNO := hid (whole_no hlt fun h => absurd h.2.1 (by omega))
          go_wp2_with (first | (at_lookup; refine wpList_lookup_own_int _ rfl _ _ 95 rfl 3 3 .i64 int_law Try.underlying95 Try.underlying3 (zero_int _) _ _ _ rfl (HOW.out.alloc _) _ _ rfl HKEY.out ?_; intro c hat hwc; obtain rfl : c = (cnt l[m + 1].group (l.take (m + 1)) : Int) := lit_inj (hat.symm.trans (HCN.out _))) | (at_mapUpdate; refine wpList_mapUpdate_own _ rfl _ _ _ 95 rfl 3 3 int_law Try.underlying95 _ _ _ _ rfl (HOW.out.alloc _) (by unfold maxLen; omega) _ _ _ rfl rfl HKEY.out _ [] (plainElem_int Try.underlying3 (cnt_wf hlt (by omega) _)) ?_; intro w1 hown1 hgrow1; obtain ⟨HO1, HC1, hz1, HB1⟩ := behind HCN.out HM.out HB.out hlt hlt0 rfl hown1 rfl hgrow1 (Nat.le_refl _); have hz2 : wr.heap.size < w1.heap.size := (by omega); have hb9 : b < w1.heap.size := (by omega); have y4 := (grown_cell hgrow1 (p := ⟨wr.heap.size, 4, none⟩) (by simp) (by simp; omega)).trans (show _ = some (Value.int .u64 l[m + 1].ver) from (by simp [go_sem])); have y5 := (grown_cell hgrow1 (p := ⟨wr.heap.size, 5, none⟩) (by simp) (by simp; omega)).trans (show _ = some (Value.int .u64 l[m + 1].epoch) from (by simp [go_sem])); have y6 := (grown_cell hgrow1 (p := ⟨wr.heap.size, 6, none⟩) (by simp) (by simp; omega)).trans (show _ = some (Value.int .i64 l[m + 1].group) from (by simp [go_sem])); obtain ⟨b2, off2, hA3, hB2, q0, q1, q2, q3, q4, q5, q6⟩ := (HA.out.below HB1.out).eff (i := m) hml; cases hA3; obtain ⟨c2, hrun2, hat2, hwc2⟩ := (HO1.out.alloc (.cells #[.int .i64 l[m].kind, .string l[m].key, .string l[m].val, .int .u64 l[m].id, .int .u64 l[m].ver, .int .u64 l[m].epoch, .int .i64 l[m].group] 86)).lookup_int int_law Try.underlying95 Try.underlying3 (zero_int _) HKEY.out; obtain rfl : c2 = (cnt l[m + 1].group (l.take (m + 1 + 1)) : Int) := lit_inj (hat2.symm.trans (HC1.out _)); clear hgrow1 hown1))
          go_ret
          exact ⟨false, rfl, by simpa using HNO.out, HB1.out.alloc (by have := HB1.out.size; omega) _⟩
        by_cases t3 : l[m + 1].group = l[m].group
        · by_cases t4 : l[m + 1].epoch = l[m].epoch
          · have HOK := hid (HTO.out.succ hlt ⟨by omega, by omega, fun _ => t4.symm, fun h => absurd t3.symm h⟩)
            obtain ⟨g, hg⟩ : ∃ g, g = l[m + 1].group := ⟨_, rfl⟩
            have HGX := hid hg.symm
            have HGY := hid (t3.symm.trans hg.symm)
            rw [← hg] at k6 HKEY hcK
            obtain ⟨ep, hep⟩ : ∃ ep, ep = l[m + 1].epoch := ⟨_, rfl⟩
            have HEY := hid (t4.symm.trans hep.symm)
            rw [← hep] at k5
            rw [← t4, ← hep] at t2
            clear t3 t4 hg hep
            go_wp2_with (first | (at_lookup; refine wpList_lookup_own_int _ rfl _ _ 95 rfl 3 3 .i64 int_law Try.underlying95 Try.underlying3 (zero_int _) _ _ _ rfl (HOW.out.alloc _) _ _ rfl HKEY.out ?_; intro c hat hwc; obtain rfl : c = (cnt g (l.take (m + 1)) : Int) := lit_inj (hat.symm.trans (HCN.out _))) | (at_mapUpdate; refine wpList_mapUpdate_own _ rfl _ _ _ 95 rfl 3 3 int_law Try.underlying95 _ _ _ _ rfl (HOW.out.alloc _) (by unfold maxLen; omega) _ _ _ rfl rfl HKEY.out _ [] (plainElem_int Try.underlying3 (cnt_wf hlt (by omega) _)) ?_; intro w1 hown1 hgrow1; obtain ⟨HO1, HC1, hz1, HB1⟩ := behind HCN.out HM.out HB.out hlt hlt0 HGX.out hown1 rfl hgrow1 (Nat.le_refl _); have hz2 : wr.heap.size < w1.heap.size := (by omega); have hb9 : b < w1.heap.size := (by omega); have y4 := (grown_cell hgrow1 (p := ⟨wr.heap.size, 4, none⟩) (by simp) (by simp; omega)).trans (show _ = some (Value.int .u64 l[m + 1].ver) from (by simp [go_sem])); have y5 := (grown_cell hgrow1 (p := ⟨wr.heap.size, 5, none⟩) (by simp) (by simp; omega)).trans (show _ = some (Value.int .u64 ep) from (by simp [go_sem])); have y6 := (grown_cell hgrow1 (p := ⟨wr.heap.size, 6, none⟩) (by simp) (by simp; omega)).trans (show _ = some (Value.int .i64 g) from (by simp [go_sem])); obtain ⟨b2, off2, hA3, hB2, q0, q1, q2, q3, q4, q5, q6⟩ := (HA.out.below HB1.out).eff (i := m) hml; cases hA3; rw [HGY.out] at q6; rw [HEY.out] at q5; obtain ⟨c2, hrun2, hat2, hwc2⟩ := (HO1.out.alloc (.cells #[.int .i64 l[m].kind, .string l[m].key, .string l[m].val, .int .u64 l[m].id, .int .u64 l[m].ver, .int .u64 ep, .int .i64 g] 86)).lookup_int int_law Try.underlying95 Try.underlying3 (zero_int _) HKEY.out; obtain rfl : c2 = (cnt g (l.take (m + 1 + 1)) : Int) := lit_inj (hat2.symm.trans (HC1.out _)); clear hgrow1 hown1))
            exact ⟨⟨m + 1 + 1, _, by omega, by go_num, HO1.out.alloc _, HB1.out.alloc (by have := HB1.out.size; omega) _, HOK.out, HC1.out⟩, by simp [intOf]; omega⟩
          · have HNO := hid (whole_no hlt fun h => t4 (h.2.2.1 t3.symm).symm)
            obtain ⟨g, hg⟩ : ∃ g, g = l[m + 1].group := ⟨_, rfl⟩
            have HGX := hid hg.symm
            have HGY := hid (t3.symm.trans hg.symm)
            rw [← hg] at k6 HKEY hcK
            clear t3 hg
            go_wp2_with (first | (at_lookup; refine wpList_lookup_own_int _ rfl _ _ 95 rfl 3 3 .i64 int_law Try.underlying95 Try.underlying3 (zero_int _) _ _ _ rfl (HOW.out.alloc _) _ _ rfl HKEY.out ?_; intro c hat hwc; obtain rfl : c = (cnt g (l.take (m + 1)) : Int) := lit_inj (hat.symm.trans (HCN.out _))) | (at_mapUpdate; refine wpList_mapUpdate_own _ rfl _ _ _ 95 rfl 3 3 int_law Try.underlying95 _ _ _ _ rfl (HOW.out.alloc _) (by unfold maxLen; omega) _ _ _ rfl rfl HKEY.out _ [] (plainElem_int Try.underlying3 (cnt_wf hlt (by omega) _)) ?_; intro w1 hown1 hgrow1; obtain ⟨HO1, HC1, hz1, HB1⟩ := behind HCN.out HM.out HB.out hlt hlt0 HGX.out hown1 rfl hgrow1 (Nat.le_refl _); have hz2 : wr.heap.size < w1.heap.size := (by omega); have hb9 : b < w1.heap.size := (by omega); have y4 := (grown_cell hgrow1 (p := ⟨wr.heap.size, 4, none⟩) (by simp) (by simp; omega)).trans (show _ = some (Value.int .u64 l[m + 1].ver) from (by simp [go_sem])); have y5 := (grown_cell hgrow1 (p := ⟨wr.heap.size, 5, none⟩) (by simp) (by simp; omega)).trans (show _ = some (Value.int .u64 l[m + 1].epoch) from (by simp [go_sem])); have y6 := (grown_cell hgrow1 (p := ⟨wr.heap.size, 6, none⟩) (by simp) (by simp; omega)).trans (show _ = some (Value.int .i64 g) from (by simp [go_sem])); obtain ⟨b2, off2, hA3, hB2, q0, q1, q2, q3, q4, q5, q6⟩ := (HA.out.below HB1.out).eff (i := m) hml; cases hA3; rw [HGY.out] at q6; obtain ⟨c2, hrun2, hat2, hwc2⟩ := (HO1.out.alloc (.cells #[.int .i64 l[m].kind, .string l[m].key, .string l[m].val, .int .u64 l[m].id, .int .u64 l[m].ver, .int .u64 l[m].epoch, .int .i64 g] 86)).lookup_int int_law Try.underlying95 Try.underlying3 (zero_int _) HKEY.out; obtain rfl : c2 = (cnt g (l.take (m + 1 + 1)) : Int) := lit_inj (hat2.symm.trans (HC1.out _)); clear hgrow1 hown1))
            go_ret
            exact ⟨false, rfl, by simpa using HNO.out, HB1.out.alloc (by have := HB1.out.size; omega) _⟩
        · by_cases t4 : 0 < cnt l[m + 1].group (l.take (m + 1))
          · have HNO := hid (whole_no hlt fun h => by
              obtain ⟨j, hj, hjm, hg⟩ := cnt_pos.1 t4
              by_cases hjm' : j = m
              · subst hjm'
                exact t3 hg.symm
              · exact h.2.2.2 (fun e => t3 e.symm) j (by omega) hg)
            have b3 : (1 : Int) < (cnt l[m + 1].group (l.take (m + 1 + 1)) : Int) := by rw [cnt_succ hlt, if_pos rfl]; omega
            go_wp2_with (first | (at_lookup; refine wpList_lookup_own_int _ rfl _ _ 95 rfl 3 3 .i64 int_law Try.underlying95 Try.underlying3 (zero_int _) _ _ _ rfl (HOW.out.alloc _) _ _ rfl HKEY.out ?_; intro c hat hwc; obtain rfl : c = (cnt l[m + 1].group (l.take (m + 1)) : Int) := lit_inj (hat.symm.trans (HCN.out _))) | (at_mapUpdate; refine wpList_mapUpdate_own _ rfl _ _ _ 95 rfl 3 3 int_law Try.underlying95 _ _ _ _ rfl (HOW.out.alloc _) (by unfold maxLen; omega) _ _ _ rfl rfl HKEY.out _ [] (plainElem_int Try.underlying3 (cnt_wf hlt (by omega) _)) ?_; intro w1 hown1 hgrow1; obtain ⟨HO1, HC1, hz1, HB1⟩ := behind HCN.out HM.out HB.out hlt hlt0 rfl hown1 rfl hgrow1 (Nat.le_refl _); have hz2 : wr.heap.size < w1.heap.size := (by omega); have hb9 : b < w1.heap.size := (by omega); have y4 := (grown_cell hgrow1 (p := ⟨wr.heap.size, 4, none⟩) (by simp) (by simp; omega)).trans (show _ = some (Value.int .u64 l[m + 1].ver) from (by simp [go_sem])); have y5 := (grown_cell hgrow1 (p := ⟨wr.heap.size, 5, none⟩) (by simp) (by simp; omega)).trans (show _ = some (Value.int .u64 l[m + 1].epoch) from (by simp [go_sem])); have y6 := (grown_cell hgrow1 (p := ⟨wr.heap.size, 6, none⟩) (by simp) (by simp; omega)).trans (show _ = some (Value.int .i64 l[m + 1].group) from (by simp [go_sem])); obtain ⟨b2, off2, hA3, hB2, q0, q1, q2, q3, q4, q5, q6⟩ := (HA.out.below HB1.out).eff (i := m) hml; cases hA3; obtain ⟨c2, hrun2, hat2, hwc2⟩ := (HO1.out.alloc (.cells #[.int .i64 l[m].kind, .string l[m].key, .string l[m].val, .int .u64 l[m].id, .int .u64 l[m].ver, .int .u64 l[m].epoch, .int .i64 l[m].group] 86)).lookup_int int_law Try.underlying95 Try.underlying3 (zero_int _) HKEY.out; obtain rfl : c2 = (cnt l[m + 1].group (l.take (m + 1 + 1)) : Int) := lit_inj (hat2.symm.trans (HC1.out _)); clear hgrow1 hown1))
            go_ret
            exact ⟨false, rfl, by simpa using HNO.out, HB1.out.alloc (by have := HB1.out.size; omega) _⟩
          · have HOK := hid (HTO.out.succ hlt ⟨by omega, by omega, fun h => absurd h.symm t3, fun _ j hj hg => t4 (cnt_pos.2 ⟨j, by omega, by omega, hg⟩)⟩)
            have b3 : ¬ (1 : Int) < (cnt l[m + 1].group (l.take (m + 1 + 1)) : Int) := by rw [cnt_succ hlt, if_pos rfl]; omega
            go_wp2_with (first | (at_lookup; refine wpList_lookup_own_int _ rfl _ _ 95 rfl 3 3 .i64 int_law Try.underlying95 Try.underlying3 (zero_int _) _ _ _ rfl (HOW.out.alloc _) _ _ rfl HKEY.out ?_; intro c hat hwc; obtain rfl : c = (cnt l[m + 1].group (l.take (m + 1)) : Int) := lit_inj (hat.symm.trans (HCN.out _))) | (at_mapUpdate; refine wpList_mapUpdate_own _ rfl _ _ _ 95 rfl 3 3 int_law Try.underlying95 _ _ _ _ rfl (HOW.out.alloc _) (by unfold maxLen; omega) _ _ _ rfl rfl HKEY.out _ [] (plainElem_int Try.underlying3 (cnt_wf hlt (by omega) _)) ?_; intro w1 hown1 hgrow1; obtain ⟨HO1, HC1, hz1, HB1⟩ := behind HCN.out HM.out HB.out hlt hlt0 rfl hown1 rfl hgrow1 (Nat.le_refl _); have hz2 : wr.heap.size < w1.heap.size := (by omega); have hb9 : b < w1.heap.size := (by omega); have y4 := (grown_cell hgrow1 (p := ⟨wr.heap.size, 4, none⟩) (by simp) (by simp; omega)).trans (show _ = some (Value.int .u64 l[m + 1].ver) from (by simp [go_sem])); have y5 := (grown_cell hgrow1 (p := ⟨wr.heap.size, 5, none⟩) (by simp) (by simp; omega)).trans (show _ = some (Value.int .u64 l[m + 1].epoch) from (by simp [go_sem])); have y6 := (grown_cell hgrow1 (p := ⟨wr.heap.size, 6, none⟩) (by simp) (by simp; omega)).trans (show _ = some (Value.int .i64 l[m + 1].group) from (by simp [go_sem])); obtain ⟨b2, off2, hA3, hB2, q0, q1, q2, q3, q4, q5, q6⟩ := (HA.out.below HB1.out).eff (i := m) hml; cases hA3; obtain ⟨c2, hrun2, hat2, hwc2⟩ := (HO1.out.alloc (.cells #[.int .i64 l[m].kind, .string l[m].key, .string l[m].val, .int .u64 l[m].id, .int .u64 l[m].ver, .int .u64 l[m].epoch, .int .i64 l[m].group] 86)).lookup_int int_law Try.underlying95 Try.underlying3 (zero_int _) HKEY.out; obtain rfl : c2 = (cnt l[m + 1].group (l.take (m + 1 + 1)) : Int) := lit_inj (hat2.symm.trans (HC1.out _)); clear hgrow1 hown1))
            exact ⟨⟨m + 1 + 1, _, by omega, by go_num, HO1.out.alloc _, HB1.out.alloc (by have := HB1.out.size; omega) _, HOK.out, HC1.out⟩, by simp [intOf]; omega⟩
    · have HALL := hid (HTO.out.all (by omega))
      go_wp2_with fail
      go_ret
      exact ⟨true, rfl, by simpa using HALL.out, HB.out⟩
end Go.Proofs.Ythpegmeebhkhbaa
