/- ideal.Apply of any call. -/
import Derived.Test.YtamcehfcjcmpmaaGreatDoorApp
/- ideal.Apply of a group. -/
namespace Go.Proofs.YtamcehfcjcmpmaaGreatDoor
open Go.RowKit

theorem grp_len {c : Call0} {g : List Call0} (h : goodI c g = 0) (h7 : c.kind = 7) : g.length ≤ 3 := by
  unfold goodI at h
  split at h
  · cases h
  · rename_i hs
    rw [Bool.not_eq_false] at hs
    unfold shapeB at hs
    repeat' split at hs
    all_goals first | (cases hs; done) | omega | contradiction
theorem grp_len1 {c : Call0} {g : List Call0} (h : goodI c g = 0) (h7 : c.kind = 7) : 1 ≤ g.length := by
  unfold goodI at h
  split at h
  · cases h
  · rename_i hs
    rw [Bool.not_eq_false] at hs
    unfold shapeB at hs
    repeat' split at hs
    all_goals first | (cases hs; done) | omega | contradiction
/-- a store and an answer under way, apart from one another and from the table at b -/
def GInv (n b p q : Nat) (W3 wr : World) (S : Shelf) (A : Ans) : Prop :=
  ∃ F G : Nat → Prop, Store F wr p S ∧ AnsAt G wr q A ∧ (∀ j, F j → ¬ G j) ∧ (∀ j, F j ∨ G j → n + 4 ≤ j ∧ j ≠ b ∧ j < wr.heap.size) ∧ Only (fun j => n + 4 ≤ j ∧ j ≠ b) W3 wr
theorem zeroAns_row (W : World) (q : Nat) (h : W.heap[q]? = some (.cells #[.int .i64 0, .bool false, .string ByteArray.empty, .slice none 0 0, .slice none 0 0, .int .u64 0] 50 (0, 0))) : AnsAt (fun j => j = q) W q (ans0 0) :=
  ⟨none, 0, none, 0, h, Own.none_, Own.none_, rfl, .inl rfl, .inl rfl, by simp⟩
theorem arr_one_bit {w : World} {vb : Nat} {x : Bool} (hv : w.heap[vb]? = some (.cells #[.bool x] 4 (0, 0))) : Arr bit 1 w w.heap.size (some ⟨vb, 0, none⟩) [x] := by
  refine Arr.of_cells bit_len (lt_of_heap hv) fun j u hu => ?_
  rw [cell_of_row w vb _ _ _ _ hv, Nat.zero_add, List.getElem?_toArray]
  exact hu
theorem GInv.enter {n b p q : Nat} {W3 wr : World} {S : Shelf} {A : Ans} (h : GInv n b p q W3 wr S A) (hn : n + 4 ≤ wr.heap.size) (hb : b < wr.heap.size) (X : Obj) :
    ∃ K : Nat → Prop, SA K ((wr.alloc X).alloc (.cells #[.int .i64 0, .bool false, .string ByteArray.empty, .slice none 0 0, .slice none 0 0, .int .u64 0] 50)) p (wr.heap.size + 1) S (ans0 0) ∧ (∀ j, wr.heap.size + 2 ≤ j → K j) ∧
      (∀ j, K j → n + 4 ≤ j ∧ j ≠ b ∧ j ≠ wr.heap.size) ∧
      ∀ w' S' a', SA K w' p (wr.heap.size + 1) S' a' → Only K ((wr.alloc X).alloc (.cells #[.int .i64 0, .bool false, .string ByteArray.empty, .slice none 0 0, .slice none 0 0, .int .u64 0] 50)) w' → GInv n b p q W3 w' S' A := by
  obtain ⟨F, G, hS, hA, hFG, hbd, hon⟩ := h
  have hbel : Below wr.heap.size wr ((wr.alloc X).alloc (.cells #[.int .i64 0, .bool false, .string ByteArray.empty, .slice none 0 0, .slice none 0 0, .int .u64 0] 50)) := ((Below.refl _ _).alloc (Nat.le_refl _) _).alloc (by simp) _
  have hS1 := hS.only (Only.of_below (F := fun j => wr.heap.size ≤ j) hbel) fun j hj => by have := (hbd j (.inl hj)).2.2; omega
  refine ⟨fun j => F j ∨ wr.heap.size + 1 ≤ j, ⟨F, fun j => j = wr.heap.size + 1, hS1, zeroAns_row _ _ (by rw [heap_alloc_if, if_pos (by simp)]), fun j hj e => by have := (hbd j (.inl hj)).2.2; omega, fun j hj => .inl hj, fun j hj => .inr (by omega)⟩, fun j hj => .inr (by omega), fun j hj => ?_, ?_⟩
  · rcases hj with hj | hj
    · have := hbd j (.inl hj); exact ⟨this.1, this.2.1, by omega⟩
    · exact ⟨by omega, by omega, by omega⟩
  · intro w' S' a' hsa ho
    have hA1 := (hA.clip.only (Only.of_below (F := fun j => wr.heap.size ≤ j) hbel) fun j hj => by have := hj.2; omega)
    have hA2 := hA1.only ho fun j hj hk => by
      rcases hk with hk | hk
      · exact hFG j hk hj.1
      · have := hj.2; omega
    obtain ⟨F', G', hS', _, _, hFK, _⟩ := hsa
    have hz := ho.size
    simp only [World.size_alloc] at hz
    refine ⟨_, _, hS'.clip, hA2, fun j hj hg => ?_, fun j hj => ?_, hon.trans ((Only.of_below hbel).trans (ho.mono fun j hj => ?_))⟩
    · rcases hFK j hj.1 with h | h
      · exact hFG j h hg.1
      · have := hg.2; omega
    · rcases hj with hj | hj
      · rcases hFK j hj.1 with h | h
        · have := hbd j (.inl h); exact ⟨this.1, this.2.1, hj.2⟩
        · exact ⟨by omega, by omega, hj.2⟩
      · have := hbd j (.inr hj.1); exact ⟨this.1, this.2.1, by omega⟩
    · rcases hj with h | h
      · have := hbd j (.inl h); exact ⟨this.1, this.2.1⟩
      · exact ⟨by omega, by omega⟩
theorem GInv.hit {n b p q : Nat} {W3 w2 W w3 : World} {S : Shelf} {A : Ans} {F G : Nat → Prop} {RA : Option Addr} {rc : Nat} {HA : Option Addr} {hc : Nat} {A' : Option Addr} {c' m : Nat} {x : Bool}
    (hS : Store F w2 p S) (h1 : w2.heap[q]? = some (.cells #[.int .i64 A.code, .bool A.found, .string A.value, .slice RA A.pairs.length rc, .slice HA A.hits.length hc, .int .u64 0] 50 (0, 0))) (h2 : Own Pair.enc 54 2 w2 0 RA rc A.pairs) (h3 : Own bit 4 1 w2 0 HA hc A.hits) (h4 : G q) (h5 : Lies G q RA rc) (h6 : Lies G q HA hc)
    (h7 : ∀ b o b' o', RA = some ⟨b, o, none⟩ → HA = some ⟨b', o', none⟩ → rc = 0 ∨ hc = 0 ∨ b ≠ b')
    (hFG : ∀ j, F j → ¬ G j) (hbd : ∀ j, F j ∨ G j → n + 4 ≤ j ∧ j ≠ b ∧ j < w2.heap.size) (hon : Only (fun j => n + 4 ≤ j ∧ j ≠ b) W3 w2) (hn : n + 4 ≤ w2.heap.size) (hb : b < w2.heap.size)
    (hW : Below w2.heap.size w2 W) (hgr : W.grownBy w3 (rowOf HA hc)) (hown : Own bit 4 1 w3 0 A' c' (A.hits ++ [x])) (hloc : A' = HA ∧ c' = hc ∨ ∃ g, A' = some ⟨g, 0, none⟩ ∧ W.heap.size ≤ g) (hm : m = (A.hits ++ [x]).length) :
    GInv n b p q W3 (w3.setCell ⟨q, 4, none⟩ (.slice A' m c')) S { A with hits := A.hits ++ [x] } := by
  have hput := AnsAt.putHits (G := fun j => G j ∨ w2.heap.size ≤ j) h1 h2 h3 (.inl h4) (h5.mono fun j hj => .inl hj) (h6.mono fun j hj => .inl hj) h7 (fun j hj => .inr hj) hW hgr hown hloc hm
  have hz := hput.2.size
  refine ⟨F, _, hS.only hput.2 fun j hj hg => ?_, hput.1.clip, fun j hj hg => ?_, fun j hj => ?_, hon.trans (hput.2.mono fun j hj => ?_)⟩
  · rcases hg with hg | hg
    · exact hFG j hj hg
    · have := (hbd j (.inl hj)).2.2; omega
  · rcases hg.1 with h | h
    · exact hFG j hj h
    · have := (hbd j (.inl hj)).2.2; omega
  · rcases hj with hj | hj
    · have := hbd j (.inl hj); exact ⟨this.1, this.2.1, by omega⟩
    · rcases hj.1 with h | h
      · have := hbd j (.inr h); exact ⟨this.1, this.2.1, hj.2⟩
      · exact ⟨by omega, by omega, hj.2⟩
  · rcases hj with h | h
    · have := hbd j (.inr h); exact ⟨this.1, this.2.1⟩
    · exact ⟨by omega, by omega⟩
set_option maxHeartbeats 8000000 in
set_option maxRecDepth 100000 in
theorem apply_group0 (s : Shelf) (PA : Option Addr) (pc : Nat) (QA : Option Addr) (qc : Nat) (key val to : ByteArray) (bg off gc : Nat) (g : List Call0) (w : World) (h : ShIn w w.heap.size PA pc QA qc s) (hp : s.pairs.length ≤ 90000) (hq : s.queue.length ≤ 90000) (hc : CallIn w w.heap.size (⟨7, key, val, to, some ⟨bg, off, none⟩, g.length, gc⟩ : Call0) g)
    (hgood : goodI (⟨7, key, val, to, some ⟨bg, off, none⟩, g.length, gc⟩ : Call0) g = 0) :
    Calls Tryz.prog 35 #[.agg #[.slice PA s.pairs.length pc, .slice QA s.queue.length qc], .agg #[.int .i64 7, .string key, .string val, .string to, .slice (some ⟨bg, off, none⟩) g.length gc]] w (GivesAp (doAll g s) { ans0 0 with hits := hitsOf g s } w) := by
  have hkinds := grp_kind hgood rfl
  have hg3 : g.length ≤ 3 := grp_len hgood rfl
  have HKD := hid hkinds
  clear hkinds
  have H := hid h
  have HC := hid hc
  have HG := hid hgood
  have HP := hid hp
  have HQ := hid hq
  clear h hc hgood hp hq
  go_enter Tryz.func35, Tryz.ntmps35
  go_wp2_with fail
  refine (copied_any s PA pc QA qc _ ?_ (by have := HP.out; omega) (by have := HQ.out; omega)).mono ?_
  · exact (H.out.below (by repeat (first | exact Below.refl _ _ | assumption | refine Below.drew ?_ | refine below_drewN ?_ _ | refine Below.alloc ?_ (by first | omega | (simp; done) | (simp; omega)) _ | refine Below.setCell ?_ (by first | omega | (simp; done) | (simp; omega)) _))).more (by first | omega | (simp; done) | (simp; omega))
  rintro e w1 ⟨A1, c1, A2, c2, rfl, hown, hb1⟩
  obtain ⟨n, hn⟩ : ∃ n, n = w.heap.size := ⟨_, rfl⟩
  have hs1 : n + 4 ≤ w1.heap.size := by have := hb1.size; simp at this; omega
  have bw1 : Below w.heap.size w w1 := Below.trans (by repeat (first | exact Below.refl _ _ | assumption | refine Below.drew ?_ | refine below_drewN ?_ _ | refine Below.alloc ?_ (by first | omega | (simp; done) | (simp; omega)) _ | refine Below.setCell ?_ (by first | omega | (simp; done) | (simp; omega)) _)) (hb1.mono (show w.heap.size ≤ _ from (by first | omega | (simp; done) | (simp; omega))))
  have R1 : w1.heap[n + 1]? = some (.cells #[.int .i64 7, .string key, .string val, .string to, .slice (some ⟨bg, off, none⟩) g.length gc] 46 (0, 0)) := by
    rw [hb1.block _ (by simp; omega), heap_alloc_if, if_neg (by simp; omega), heap_alloc_if, if_neg (by simp; omega), heap_alloc_if, if_pos (by simp; omega)]
  have R2 : w1.heap[n + 2]? = some (.cells #[.slice none 0 0, .slice none 0 0] 25 (0, 0)) := by
    rw [hb1.block _ (by simp; omega), heap_alloc_if, if_neg (by simp; omega), heap_alloc_if, if_pos (by simp; omega)]
  have R3 : w1.heap[n + 3]? = some (.cells #[.int .i64 0, .bool false, .string ByteArray.empty, .slice none 0 0, .slice none 0 0, .int .u64 0] 50 (0, 0)) := by
    rw [hb1.block _ (by simp; omega), heap_alloc_if, if_pos (by simp; omega)]; rfl
  have HO := hid (show ShOwn w1 (n + 4) A1 c1 A2 c2 s from by rw [hn]; simpa using hown)
  clear hown hb1
  obtain ⟨p, hp⟩ : ∃ p, p = w1.heap.size := ⟨_, rfl⟩
  have k0 : w1.cell? ⟨w.heap.size + 1, 0, none⟩ = some (.int .i64 7) := by rw [← hn, cell_of_row w1 _ 0 _ _ _ R1]; rfl
  have k1 : w1.cell? ⟨w.heap.size + 1, 1, none⟩ = some (.string key) := by rw [← hn, cell_of_row w1 _ 1 _ _ _ R1]; rfl
  have k2 : w1.cell? ⟨w.heap.size + 1, 2, none⟩ = some (.string val) := by rw [← hn, cell_of_row w1 _ 2 _ _ _ R1]; rfl
  have k3 : w1.cell? ⟨w.heap.size + 1, 3, none⟩ = some (.string to) := by rw [← hn, cell_of_row w1 _ 3 _ _ _ R1]; rfl
  have k4 : w1.cell? ⟨w.heap.size + 1, 4, none⟩ = some (.slice (some ⟨bg, off, none⟩) g.length gc) := by rw [← hn, cell_of_row w1 _ 4 _ _ _ R1]; rfl
  have hlt : w.heap.size + 1 < w1.heap.size := by omega
  have HN := hid hn
  have HPn := hid hp
  clear hn hp
  go_wp2_with fail
  refine (good_any (⟨7, key, val, to, some ⟨bg, off, none⟩, g.length, gc⟩ : Call0) g _ ?_).mono ?_
  · exact (HC.out.below (bw1.trans (((Below.refl _ w1).alloc (Nat.le_refl _) _).mono bw1.size))).more (by have := bw1.size; simp; omega)
  rintro e w2 ⟨rfl, hb2⟩
  rw [HG.out]
  have hs2 : w1.heap.size + 1 ≤ w2.heap.size := by have := hb2.size; simpa using this
  have bw2 : Below w1.heap.size w1 w2 := Below.trans (by repeat (first | exact Below.refl _ _ | assumption | refine Below.drew ?_ | refine below_drewN ?_ _ | refine Below.alloc ?_ (by first | omega | (simp; done) | (simp; omega)) _ | refine Below.setCell ?_ (by first | omega | (simp; done) | (simp; omega)) _)) (hb2.mono (show w1.heap.size ≤ _ from (by first | omega | (simp; done) | (simp; omega))))
  have P2 : w2.heap[w1.heap.size]? = some (.cells #[.slice A1 s.pairs.length c1, .slice A2 s.queue.length c2] 25 (0, 0)) := by
    rw [hb2.block _ (by simp), heap_alloc_if, if_pos rfl]
  clear hb2
  go_wp2_with fail
  refine (doings_any _).mono ?_
  rintro e w3 ⟨b, rfl, hb, hmap, hb3⟩
  have hs3 : w2.heap.size + 1 ≤ w3.heap.size := by have := hb3.size; simpa using this
  have hbs : w2.heap.size + 1 ≤ b := by simpa using hb
  have bw3 : Below w2.heap.size w2 w3 := Below.trans (by repeat (first | exact Below.refl _ _ | assumption | refine Below.drew ?_ | refine below_drewN ?_ _ | refine Below.alloc ?_ (by first | omega | (simp; done) | (simp; omega)) _ | refine Below.setCell ?_ (by first | omega | (simp; done) | (simp; omega)) _)) (hb3.mono (show w2.heap.size ≤ _ from (by first | omega | (simp; done) | (simp; omega))))
  have P3 : w3.heap[w1.heap.size]? = some (.cells #[.slice A1 s.pairs.length c1, .slice A2 s.queue.length c2] 25 (0, 0)) := (bw3.block _ (by omega)).trans P2
  have Q3 : w3.heap[w2.heap.size]? = some (.cells #[.int .i64 0, .bool false, .string ByteArray.empty, .slice none 0 0, .slice none 0 0, .int .u64 0] 50 (0, 0)) := by
    rw [hb3.block _ (by simp), heap_alloc_if, if_pos rfl]; rfl
  have bw13 : Below w1.heap.size w1 w3 := bw2.trans (bw3.mono (by omega))
  have k0' := (bw13.cell (p := ⟨w.heap.size + 1, 0, none⟩) hlt).trans k0
  have k1' := (bw13.cell (p := ⟨w.heap.size + 1, 1, none⟩) hlt).trans k1
  have k2' := (bw13.cell (p := ⟨w.heap.size + 1, 2, none⟩) hlt).trans k2
  have k3' := (bw13.cell (p := ⟨w.heap.size + 1, 3, none⟩) hlt).trans k3
  have k4' := (bw13.cell (p := ⟨w.heap.size + 1, 4, none⟩) hlt).trans k4
  have HM := hid hmap
  clear hb3 k0 k1 k2 k3 k4 hb hmap
  have hbl : b < w3.heap.size := lt_of_heap HM.out
  have hinv : GInv n b w1.heap.size w2.heap.size w3 w3 s (ans0 0) := by
    refine ⟨fun j => n + 4 ≤ j ∧ j < w2.heap.size, fun j => j = w2.heap.size, ⟨A1, c1, A2, c2, P3, ?_, ?_, ?_, ?_⟩, ⟨none, 0, none, 0, Q3, Own.none_, Own.none_, rfl, .inl rfl, .inl rfl, by simp⟩, fun j hj hj' => by omega, fun j hj => by omega, Only.refl _ _⟩
    · exact ⟨((HO.out.pairs.below bw13).lower (Nat.zero_le _)), ((HO.out.queue.below bw13).lower (Nat.zero_le _)), HO.out.apart⟩
    · omega
    · rcases HO.out.pairs.lt with h0 | ⟨b', o', hA, h1, h2⟩
      · exact .inl h0
      · exact .inr fun b2 o2 hA2 => by rw [hA] at hA2; cases hA2; exact ⟨⟨h1, by omega⟩, by omega⟩
    · rcases HO.out.queue.lt with h0 | ⟨b', o', hA, h1, h2⟩
      · exact .inl h0
      · exact .inr fun b2 o2 hA2 => by rw [hA] at hA2; cases hA2; exact ⟨⟨h1, by omega⟩, by omega⟩
  have HINV := hid hinv
  have HC3 := hid (HC.out.arr.below (bw1.trans (bw13.mono bw1.size)))
  have hgcap := HC.out.cap
  have hgmax := HC.out.max
  clear hinv
  go_wp2_with fail
  go_loopw [37] (fun vi wr => ∃ k : Nat, k ≤ g.length ∧ vi = .int .i64 k ∧ GInv n b w1.heap.size w2.heap.size w3 wr (doAll (g.take k) s) { ans0 0 with hits := hitsOf (g.take k) s }) (fun vi _ => g.length - (intOf vi).toNat)
  case atStart => exact ⟨0, Nat.zero_le _, rfl, HINV.out⟩
  case round =>
    obtain ⟨k, hkl, rfl, hin⟩ := hrel
    obtain ⟨S, hS⟩ : ∃ S, S = doAll (g.take k) s := ⟨_, rfl⟩
    obtain ⟨A0, hA0⟩ : ∃ A0, A0 = ({ ans0 0 with hits := hitsOf (g.take k) s } : Ans) := ⟨_, rfl⟩
    rw [← hS, ← hA0] at hin
    have HSk := hid hS
    have HAk := hid hA0
    have HI2 := hid hin
    have hOnly : Only (fun j => n + 4 ≤ j ∧ j ≠ b) w3 wr := by obtain ⟨_, _, _, _, _, _, h⟩ := hin; exact h
    have hs3r := hOnly.size
    have hSl : S.pairs.length ≤ 100000 ∧ S.queue.length ≤ 100000 := by
      have := doAll_len (g.take k) s
      rw [← hS, List.length_take] at this
      have := HP.out
      have := HQ.out
      omega
    have HSL := hid hSl
    have hAl : A0.hits.length ≤ 3 := by rw [hA0]; simp only; rw [hitsOf_len, List.length_take]; omega
    have hApl : A0.pairs.length ≤ 100000 := by rw [hA0]; simp [ans0]
    have HMr := hid (show wr.heap[b]? = some (.map tableD 7) from (hOnly.block b hbl (by omega)).trans HM.out)
    have hblr : b < wr.heap.size := by omega
    have hnr : n + 4 ≤ wr.heap.size := by omega
    have hbw : Below w.heap.size w3 wr := hOnly.below (lo := w.heap.size) (fun j hj => by have := HN.out; omega) (by have := HN.out; omega)
    have HON := hid hOnly
    clear hin hS hA0 hSl hOnly
    by_cases hlt : k < g.length
    · obtain ⟨bg', off', hgA, hB, k0, k1, k2, k3, k4⟩ := (HC3.out.below hbw).call0 hlt
      cases hgA
      have hbg : bg < wr.heap.size := by have := HN.out; omega
      have hlk : (k : Int) < (g.length : Int) := by omega
      have hk3 := grouped_cases (HKD.out _ (List.getElem_mem hlt))
      obtain ⟨i, f, hf, hfc, hdo⟩ := do_fits g[k] (by omega)
      obtain ⟨K, hsa, hKn, hKb, hKend⟩ := HI2.out.enter hnr hblr (.cells #[.int .i64 g[k].kind, .string g[k].key, .string g[k].val, .string g[k].to, .slice g[k].gA g[k].gn g[k].gc] 46)
      have HF := hid hf
      have HD := hid hdo
      have HSA := hid hsa
      have HKN := hid hKn
      have HKB := hid hKb
      have HKE := hid hKend
      have HM2 := hid (show ((wr.alloc (.cells #[.int .i64 g[k].kind, .string g[k].key, .string g[k].val, .string g[k].to, .slice g[k].gA g[k].gn g[k].gc] 46)).alloc (.cells #[.int .i64 0, .bool false, .string ByteArray.empty, .slice none 0 0, .slice none 0 0, .int .u64 0] 50)).heap[b]? = some (.map tableD 7) from (Below.heap_alloc _ _ _ (by simp; omega)).trans ((Below.heap_alloc _ _ _ hblr).trans HMr.out))
      clear hf hdo hsa hKn hKb hKend hk3
      go_wp2_with (refine wpList_look _ rfl _ _ _ rfl _ _ b 7 tableD Tryz.underlying95 Tryz.underlying3 rfl g[k].kind rfl HM2.out i _ HF.out ?_)
      refine (HD.out K _ w1.heap.size (wr.heap.size + 1) S (ans0 0) HSA.out (fun j hj => HKN.out j (by simpa using hj)) HSL.out.1 HSL.out.2 (by simp [ans0])).mono ?_
      rintro e w4 ⟨rfl, hsa4, hon4⟩
      have hz4 := hon4.size
      simp only [World.size_alloc] at hz4
      obtain ⟨RA1, rc1, HA1, hc1, hone⟩ := hsa4.row
      have hfin := HKE.out w4 _ _ hsa4 hon4
      obtain ⟨F, G, hSt, ⟨RA, rc, HA, hc, r1, r2, r3, r4, r5, r6, r7⟩, hFG, hbd, hon5⟩ := hfin
      have o1 : w4.cell? ⟨wr.heap.size + 1, 1, none⟩ = some (.bool (doA g[k] S (ans0 0)).found) := by rw [cell_of_row w4 _ 1 _ _ _ hone]; rfl
      have q4 : w4.cell? ⟨w2.heap.size, 4, none⟩ = some (.slice HA A0.hits.length hc) := by rw [cell_of_row w4 _ 4 _ _ _ r1]; rfl
      have hlo1 : wr.heap.size + 1 < w4.heap.size := by omega
      have hlq : w2.heap.size < w4.heap.size := lt_of_heap r1
      obtain ⟨fd, hfd⟩ : ∃ fd, fd = (doA g[k] S (ans0 0)).found := ⟨_, rfl⟩
      have HFD := hid hfd
      rw [← hfd] at o1
      have HR1 := hid r1
      have HR3 := hid r3
      have HR6 := hid r6
      have HBK := hid (fun (w6 : World) (A' : Option Addr) (c' m : Nat) (hgr : (w4.alloc (.cells #[.bool fd] 4)).grownBy w6 (rowOf HA hc)) (hown : Own bit 4 1 w6 0 A' c' (A0.hits ++ [fd])) (hloc : A' = HA ∧ c' = hc ∨ ∃ g, A' = some ⟨g, 0, none⟩ ∧ (w4.alloc (.cells #[.bool fd] 4)).heap.size ≤ g) (hm : m = (A0.hits ++ [fd]).length) =>
        GInv.hit hSt r1 r2 r3 r4 r5 r6 r7 hFG hbd hon5 (by omega) (by omega) ((Below.refl _ w4).alloc (Nat.le_refl _) _) hgr hown hloc hm)
      have HSN := hid (show doS g[k] S = doAll (g.take (k + 1)) s by rw [doAll_succ hlt, HSk.out])
      have HAN := hid (show ({ A0 with hits := A0.hits ++ [fd] } : Ans) = { ans0 0 with hits := hitsOf (g.take (k + 1)) s } by rw [hitsOf_succ hlt, HAk.out, hfd, HSk.out])
      clear hone hsa4 hon4 hSt r1 r2 r3 r4 r5 r6 r7 hFG hbd hon5 hfd
      go_wp2_with (at_builtin; refine app_bit (l := A0.hits) (m := [fd]) (A := HA) (c := hc) (lo := 0) _ rfl (.tmp 48) (.tmp 51) rfl rfl (HR3.out.alloc _) 1 rfl (arr_one_bit (vb := w4.heap.size) (x := fd) (by rw [heap_alloc_if, if_pos rfl])) (by simp; omega) (Nat.zero_le _) ?_; intro A' c' w6 hown hgr hloc; have hq6 := (hgr.block w2.heap.size (by simp; omega) fun hr => (HR3.out.row HR6.out w2.heap.size hr.symm).2 rfl).trans ((Below.heap_alloc _ _ _ hlq).trans HR1.out); have e64 : w6.cell? ⟨w2.heap.size, 4, none⟩ = some (.slice HA A0.hits.length hc) := (by rw [cell_of_row w6 _ 4 _ _ _ hq6]; rfl); have f64 := frozen_of_row w6 _ 4 _ _ hq6)
      refine ⟨⟨k + 1, by omega, by go_num, ?_⟩, by simp [intOf]; omega⟩
      rw [← HSN.out, ← HAN.out]
      exact HBK.out w6 A' c' _ hgr hown hloc (by simp)
    · have hgk : g.take k = g := List.take_of_length_le (by omega)
      have HSG := hid (show S = doAll g s by rw [HSk.out, hgk])
      have HAG := hid (show A0 = { ans0 0 with hits := hitsOf g s } by rw [HAk.out, hgk])
      clear hgk
      have hnn := HN.out
      obtain ⟨F, G, ⟨P', pc', Q', qc', p1, p2, p3, p4, p5⟩, ⟨RA, rc, HA, hc, q1, q2, q3, q4, q5, q6, q7⟩, hFG, hbd, hon⟩ := HI2.out
      have hFK : ∀ j, F j → n + 4 ≤ j ∧ j ≠ b := fun j hj => ⟨(hbd j (.inl hj)).1, (hbd j (.inl hj)).2.1⟩
      have hGK : ∀ j, G j → n + 4 ≤ j ∧ j ≠ b := fun j hj => ⟨(hbd j (.inr hj)).1, (hbd j (.inr hj)).2.1⟩
      have R24 : wr.heap[w.heap.size + 1 + 1]? = some (.cells #[.slice none 0 0, .slice none 0 0] 25 (0, 0)) := by
        rw [show w.heap.size + 1 + 1 = n + 2 by omega, hon.block _ (by omega) (by omega), bw13.block _ (by omega)]; exact R2
      have R34 : wr.heap[w.heap.size + 1 + 1 + 1]? = some (.cells #[.int .i64 0, .bool false, .string ByteArray.empty, .slice none 0 0, .slice none 0 0, .int .u64 0] 50 (0, 0)) := by
        rw [show w.heap.size + 1 + 1 + 1 = n + 3 by omega, hon.block _ (by omega) (by omega), bw13.block _ (by omega)]; exact R3
      have f20 := frozen_of_row wr (w.heap.size + 1 + 1) 0 _ _ R24
      have f21 := frozen_of_row wr (w.heap.size + 1 + 1) 1 _ _ R24
      have f30 := frozen_of_row wr (w.heap.size + 1 + 1 + 1) 0 _ _ R34
      have f31 := frozen_of_row wr (w.heap.size + 1 + 1 + 1) 1 _ _ R34
      have f32 := frozen_of_row wr (w.heap.size + 1 + 1 + 1) 2 _ _ R34
      have f33 := frozen_of_row wr (w.heap.size + 1 + 1 + 1) 3 _ _ R34
      have f34 := frozen_of_row wr (w.heap.size + 1 + 1 + 1) 4 _ _ R34
      have f35 := frozen_of_row wr (w.heap.size + 1 + 1 + 1) 5 _ _ R34
      have v20 := cell_of_row wr (w.heap.size + 1 + 1) 0 _ _ _ R24
      have v21 := cell_of_row wr (w.heap.size + 1 + 1) 1 _ _ _ R24
      have v30 := cell_of_row wr (w.heap.size + 1 + 1 + 1) 0 _ _ _ R34
      have v31 := cell_of_row wr (w.heap.size + 1 + 1 + 1) 1 _ _ _ R34
      have v32 := cell_of_row wr (w.heap.size + 1 + 1 + 1) 2 _ _ _ R34
      have v33 := cell_of_row wr (w.heap.size + 1 + 1 + 1) 3 _ _ _ R34
      have v34 := cell_of_row wr (w.heap.size + 1 + 1 + 1) 4 _ _ _ R34
      have v35 := cell_of_row wr (w.heap.size + 1 + 1 + 1) 5 _ _ _ R34
      have x0 := cell_of_row wr w1.heap.size 0 _ _ _ p1
      have x1 := cell_of_row wr w1.heap.size 1 _ _ _ p1
      have y0 := cell_of_row wr w2.heap.size 0 _ _ _ q1
      have y1 := cell_of_row wr w2.heap.size 1 _ _ _ q1
      have y2 := cell_of_row wr w2.heap.size 2 _ _ _ q1
      have y3 := cell_of_row wr w2.heap.size 3 _ _ _ q1
      have y4 := cell_of_row wr w2.heap.size 4 _ _ _ q1
      have y5 := cell_of_row wr w2.heap.size 5 _ _ _ q1
      simp only [List.getElem?_toArray, List.getElem?_cons_zero, List.getElem?_cons_succ] at v20 v21 v30 v31 v32 v33 v34 v35 x0 x1 y0 y1 y2 y3 y4 y5
      have n1 : ¬ (w.heap.size + 1 + 1 = w1.heap.size) := by omega
      have n2 : ¬ (w.heap.size + 1 + 1 = w2.heap.size) := by omega
      have n3 : ¬ (w.heap.size + 1 + 1 + 1 = w1.heap.size) := by omega
      have n4 : ¬ (w.heap.size + 1 + 1 + 1 = w2.heap.size) := by omega
      clear hnn
      go_wp2_with fail
      go_region
      go_wp2_with fail
      have hnn := HN.out
      have hb4 : Below w.heap.size w wr := (bw1.trans (bw13.mono (by omega))).trans (hon.below (lo := w.heap.size) (fun j hj => by omega) (by omega))
      rw [← HSG.out, ← HAG.out]
      refine bodyPost_ret (v := .tuple #[.agg #[.slice P' S.pairs.length pc', .slice Q' S.queue.length qc'], .agg #[.int .i64 A0.code, .bool A0.found, .string A0.value, .slice RA A0.pairs.length rc, .slice HA A0.hits.length hc, .int .u64 0]])
        (by simp [results, Tryz.results35, go_sem, v20, v21, v30, v31, v32, v33, v34, v35]) rfl ⟨P', pc', Q', qc', RA, rc, HA, hc, rfl, ⟨?_, ?_, p2.apart⟩, ?_, ?_, ?_⟩
      · exact Own.lower (Own.drew (((((((((p2.pairs.raise p4 (lo' := n + 4) fun j hj => (hFK j hj).1).setCell (by show w.heap.size + 1 + 1 < n + 4; omega) _).setCell (by show w.heap.size + 1 + 1 < n + 4; omega) _).setCell (by show w.heap.size + 1 + 1 + 1 < n + 4; omega) _).setCell (by show w.heap.size + 1 + 1 + 1 < n + 4; omega) _).setCell (by show w.heap.size + 1 + 1 + 1 < n + 4; omega) _).setCell (by show w.heap.size + 1 + 1 + 1 < n + 4; omega) _).setCell (by show w.heap.size + 1 + 1 + 1 < n + 4; omega) _).setCell (by show w.heap.size + 1 + 1 + 1 < n + 4; omega) _)) (by omega)
      · exact Own.lower (Own.drew (((((((((p2.queue.raise p5 (lo' := n + 4) fun j hj => (hFK j hj).1).setCell (by show w.heap.size + 1 + 1 < n + 4; omega) _).setCell (by show w.heap.size + 1 + 1 < n + 4; omega) _).setCell (by show w.heap.size + 1 + 1 + 1 < n + 4; omega) _).setCell (by show w.heap.size + 1 + 1 + 1 < n + 4; omega) _).setCell (by show w.heap.size + 1 + 1 + 1 < n + 4; omega) _).setCell (by show w.heap.size + 1 + 1 + 1 < n + 4; omega) _).setCell (by show w.heap.size + 1 + 1 + 1 < n + 4; omega) _).setCell (by show w.heap.size + 1 + 1 + 1 < n + 4; omega) _)) (by omega)
      · exact Own.lower (Own.drew (((((((((q2.raise q5 (lo' := n + 4) fun j hj => (hGK j hj).1).setCell (by show w.heap.size + 1 + 1 < n + 4; omega) _).setCell (by show w.heap.size + 1 + 1 < n + 4; omega) _).setCell (by show w.heap.size + 1 + 1 + 1 < n + 4; omega) _).setCell (by show w.heap.size + 1 + 1 + 1 < n + 4; omega) _).setCell (by show w.heap.size + 1 + 1 + 1 < n + 4; omega) _).setCell (by show w.heap.size + 1 + 1 + 1 < n + 4; omega) _).setCell (by show w.heap.size + 1 + 1 + 1 < n + 4; omega) _).setCell (by show w.heap.size + 1 + 1 + 1 < n + 4; omega) _)) (by omega)
      · exact Own.lower (Own.drew (((((((((q3.raise q6 (lo' := n + 4) fun j hj => (hGK j hj).1).setCell (by show w.heap.size + 1 + 1 < n + 4; omega) _).setCell (by show w.heap.size + 1 + 1 < n + 4; omega) _).setCell (by show w.heap.size + 1 + 1 + 1 < n + 4; omega) _).setCell (by show w.heap.size + 1 + 1 + 1 < n + 4; omega) _).setCell (by show w.heap.size + 1 + 1 + 1 < n + 4; omega) _).setCell (by show w.heap.size + 1 + 1 + 1 < n + 4; omega) _).setCell (by show w.heap.size + 1 + 1 + 1 < n + 4; omega) _).setCell (by show w.heap.size + 1 + 1 + 1 < n + 4; omega) _)) (by omega)
      · exact ((((((((hb4.setCell (by show w.heap.size ≤ w.heap.size + 1 + 1; omega) _).setCell (by show w.heap.size ≤ w.heap.size + 1 + 1; omega) _).setCell (by show w.heap.size ≤ w.heap.size + 1 + 1 + 1; omega) _).setCell (by show w.heap.size ≤ w.heap.size + 1 + 1 + 1; omega) _).setCell (by show w.heap.size ≤ w.heap.size + 1 + 1 + 1; omega) _).setCell (by show w.heap.size ≤ w.heap.size + 1 + 1 + 1; omega) _).setCell (by show w.heap.size ≤ w.heap.size + 1 + 1 + 1; omega) _).setCell (by show w.heap.size ≤ w.heap.size + 1 + 1 + 1; omega) _).drew

theorem apply_group (s : Shelf) (PA : Option Addr) (pc : Nat) (QA : Option Addr) (qc : Nat) (c : Call0) (g : List Call0) (w : World) (h : ShIn w w.heap.size PA pc QA qc s) (hp : s.pairs.length ≤ 90000) (hq : s.queue.length ≤ 90000) (hc : CallIn w w.heap.size c g)
    (hgood : goodI c g = 0) (h7 : c.kind = 7) :
    Calls Tryz.prog 35 #[.agg #[.slice PA s.pairs.length pc, .slice QA s.queue.length qc], .agg #[.int .i64 c.kind, .string c.key, .string c.val, .string c.to, .slice c.gA c.gn c.gc]] w (GivesAp (doAll g s) { ans0 0 with hits := hitsOf g s } w) := by
  obtain ⟨kind, key, val, to, gA, gn, gc⟩ := c
  obtain rfl : kind = 7 := h7
  obtain rfl : gn = g.length := hc.len
  have hg1 := grp_len1 hgood rfl
  rcases hc.arr with h0 | ⟨b, off, hA, _, _⟩
  · subst h0; simp at hg1
  · obtain rfl : gA = some ⟨b, off, none⟩ := hA
    exact apply_group0 s PA pc QA qc key val to b off gc g w h hp hq hc hgood
end Go.Proofs.YtamcehfcjcmpmaaGreatDoor
namespace Go.Proofs.YtamcehfcjcmpmaaGreatDoor
open Go.RowKit

theorem goodI_bit' (c : Call0) (g : List Call0) : goodI c g = 0 ∨ goodI c g = 1 ∨ goodI c g = 5 := by
  unfold goodI
  repeat' split
  all_goals simp
theorem good_kind {c : Call0} {g : List Call0} (h : goodI c g = 0) : 1 ≤ c.kind ∧ c.kind ≤ 8 := by
  unfold goodI at h
  split at h
  · cases h
  · rename_i hs
    rw [Bool.not_eq_false] at hs
    unfold shapeB at hs
    split at hs
    · cases hs
    · omega
set_option maxHeartbeats 4000000 in
set_option maxRecDepth 100000 in
theorem apply_bad (s : Shelf) (PA : Option Addr) (pc : Nat) (QA : Option Addr) (qc : Nat) (c : Call0) (g : List Call0) (w : World) (h : ShIn w w.heap.size PA pc QA qc s) (hp : s.pairs.length ≤ 100000) (hq : s.queue.length ≤ 100000) (hc : CallIn w w.heap.size c g)
    (code : Int) (hbad : goodI c g = code) (hcode : code = 1 ∨ code = 5) :
    Calls Tryz.prog 35 #[.agg #[.slice PA s.pairs.length pc, .slice QA s.queue.length qc], .agg #[.int .i64 c.kind, .string c.key, .string c.val, .string c.to, .slice c.gA c.gn c.gc]] w (GivesAp s (ans0 code) w) := by
  have HG := hid hbad
  clear hbad
  have H := hid h
  have HC := hid hc
  have HP := hid hp
  have HQ := hid hq
  clear h hc hp hq
  go_enter Tryz.func35, Tryz.ntmps35
  go_wp2_with fail
  refine (copied_any s PA pc QA qc _ ?_ (by have := HP.out; omega) (by have := HQ.out; omega)).mono ?_
  · exact (H.out.below (by repeat (first | exact Below.refl _ _ | assumption | refine Below.drew ?_ | refine below_drewN ?_ _ | refine Below.alloc ?_ (by first | omega | (simp; done) | (simp; omega)) _ | refine Below.setCell ?_ (by first | omega | (simp; done) | (simp; omega)) _))).more (by first | omega | (simp; done) | (simp; omega))
  rintro e w1 ⟨A1, c1, A2, c2, rfl, hown, hb1⟩
  obtain ⟨n, hn⟩ : ∃ n, n = w.heap.size := ⟨_, rfl⟩
  have hs1 : n + 4 ≤ w1.heap.size := by have := hb1.size; simp at this; omega
  have bw1 : Below w.heap.size w w1 := Below.trans (by repeat (first | exact Below.refl _ _ | assumption | refine Below.drew ?_ | refine below_drewN ?_ _ | refine Below.alloc ?_ (by first | omega | (simp; done) | (simp; omega)) _ | refine Below.setCell ?_ (by first | omega | (simp; done) | (simp; omega)) _)) (hb1.mono (show w.heap.size ≤ _ from (by first | omega | (simp; done) | (simp; omega))))
  have R1 : w1.heap[n + 1]? = some (.cells #[.int .i64 c.kind, .string c.key, .string c.val, .string c.to, .slice c.gA c.gn c.gc] 46 (0, 0)) := by
    rw [hb1.block _ (by simp; omega), heap_alloc_if, if_neg (by simp; omega), heap_alloc_if, if_neg (by simp; omega), heap_alloc_if, if_pos (by simp; omega)]
  have R2 : w1.heap[n + 2]? = some (.cells #[.slice none 0 0, .slice none 0 0] 25 (0, 0)) := by
    rw [hb1.block _ (by simp; omega), heap_alloc_if, if_neg (by simp; omega), heap_alloc_if, if_pos (by simp; omega)]
  have R3 : w1.heap[n + 3]? = some (.cells #[.int .i64 0, .bool false, .string ByteArray.empty, .slice none 0 0, .slice none 0 0, .int .u64 0] 50 (0, 0)) := by
    rw [hb1.block _ (by simp; omega), heap_alloc_if, if_pos (by simp; omega)]; rfl
  have HO := hid (show ShOwn w1 (n + 4) A1 c1 A2 c2 s from by rw [hn]; simpa using hown)
  clear hown hb1
  obtain ⟨p, hp⟩ : ∃ p, p = w1.heap.size := ⟨_, rfl⟩
  have k0 : w1.cell? ⟨w.heap.size + 1, 0, none⟩ = some (.int .i64 c.kind) := by rw [← hn, cell_of_row w1 _ 0 _ _ _ R1]; rfl
  have k1 : w1.cell? ⟨w.heap.size + 1, 1, none⟩ = some (.string c.key) := by rw [← hn, cell_of_row w1 _ 1 _ _ _ R1]; rfl
  have k2 : w1.cell? ⟨w.heap.size + 1, 2, none⟩ = some (.string c.val) := by rw [← hn, cell_of_row w1 _ 2 _ _ _ R1]; rfl
  have k3 : w1.cell? ⟨w.heap.size + 1, 3, none⟩ = some (.string c.to) := by rw [← hn, cell_of_row w1 _ 3 _ _ _ R1]; rfl
  have k4 : w1.cell? ⟨w.heap.size + 1, 4, none⟩ = some (.slice c.gA c.gn c.gc) := by rw [← hn, cell_of_row w1 _ 4 _ _ _ R1]; rfl
  have hlt : w.heap.size + 1 < w1.heap.size := by omega
  have HN := hid hn
  have HPn := hid hp
  clear hn hp
  go_wp2_with fail
  refine (good_any c g _ ?_).mono ?_
  · exact (HC.out.below (bw1.trans (((Below.refl _ w1).alloc (Nat.le_refl _) _).mono bw1.size))).more (by have := bw1.size; simp; omega)
  rintro e w2 ⟨rfl, hb2⟩
  rw [HG.out]
  have hs2 : w1.heap.size + 1 ≤ w2.heap.size := by have := hb2.size; simpa using this
  have bw2 : Below w1.heap.size w1 w2 := Below.trans (by repeat (first | exact Below.refl _ _ | assumption | refine Below.drew ?_ | refine below_drewN ?_ _ | refine Below.alloc ?_ (by first | omega | (simp; done) | (simp; omega)) _ | refine Below.setCell ?_ (by first | omega | (simp; done) | (simp; omega)) _)) (hb2.mono (show w1.heap.size ≤ _ from (by first | omega | (simp; done) | (simp; omega))))
  have P2 : w2.heap[w1.heap.size]? = some (.cells #[.slice A1 s.pairs.length c1, .slice A2 s.queue.length c2] 25 (0, 0)) := by
    rw [hb2.block _ (by simp), heap_alloc_if, if_pos rfl]
  have hnn := HN.out
  have R24 : w2.heap[w.heap.size + 1 + 1]? = some (.cells #[.slice none 0 0, .slice none 0 0] 25 (0, 0)) := by
    rw [show w.heap.size + 1 + 1 = n + 2 by omega, bw2.block _ (by omega)]; exact R2
  have R34 : w2.heap[w.heap.size + 1 + 1 + 1]? = some (.cells #[.int .i64 0, .bool false, .string ByteArray.empty, .slice none 0 0, .slice none 0 0, .int .u64 0] 50 (0, 0)) := by
    rw [show w.heap.size + 1 + 1 + 1 = n + 3 by omega, bw2.block _ (by omega)]; exact R3
  have f20 := frozen_of_row w2 (w.heap.size + 1 + 1) 0 _ _ R24
  have f21 := frozen_of_row w2 (w.heap.size + 1 + 1) 1 _ _ R24
  have f30 := frozen_of_row w2 (w.heap.size + 1 + 1 + 1) 0 _ _ R34
  have f31 := frozen_of_row w2 (w.heap.size + 1 + 1 + 1) 1 _ _ R34
  have f32 := frozen_of_row w2 (w.heap.size + 1 + 1 + 1) 2 _ _ R34
  have f33 := frozen_of_row w2 (w.heap.size + 1 + 1 + 1) 3 _ _ R34
  have f34 := frozen_of_row w2 (w.heap.size + 1 + 1 + 1) 4 _ _ R34
  have f35 := frozen_of_row w2 (w.heap.size + 1 + 1 + 1) 5 _ _ R34
  have v20 := cell_of_row w2 (w.heap.size + 1 + 1) 0 _ _ _ R24
  have v21 := cell_of_row w2 (w.heap.size + 1 + 1) 1 _ _ _ R24
  have v30 := cell_of_row w2 (w.heap.size + 1 + 1 + 1) 0 _ _ _ R34
  have v31 := cell_of_row w2 (w.heap.size + 1 + 1 + 1) 1 _ _ _ R34
  have v32 := cell_of_row w2 (w.heap.size + 1 + 1 + 1) 2 _ _ _ R34
  have v33 := cell_of_row w2 (w.heap.size + 1 + 1 + 1) 3 _ _ _ R34
  have v34 := cell_of_row w2 (w.heap.size + 1 + 1 + 1) 4 _ _ _ R34
  have v35 := cell_of_row w2 (w.heap.size + 1 + 1 + 1) 5 _ _ _ R34
  have x0 := cell_of_row w2 w1.heap.size 0 _ _ _ P2
  have x1 := cell_of_row w2 w1.heap.size 1 _ _ _ P2
  simp only [List.getElem?_toArray, List.getElem?_cons_zero, List.getElem?_cons_succ] at v20 v21 v30 v31 v32 v33 v34 v35 x0 x1
  have n1 : ¬ (w.heap.size + 1 + 1 = w1.heap.size) := by omega
  have n2 : ¬ (w.heap.size + 1 + 1 = w2.heap.size) := by omega
  have n3 : ¬ (w.heap.size + 1 + 1 + 1 = w1.heap.size) := by omega
  have n4 : ¬ (w.heap.size + 1 + 1 + 1 = w2.heap.size) := by omega
  have l1 : w1.heap.size < w2.heap.size := by omega
  have l2 : w.heap.size + 1 + 1 < w2.heap.size := by omega
  have l3 : w.heap.size + 1 + 1 + 1 < w2.heap.size := by omega
  have HBB := hid (bw1.trans (bw2.mono bw1.size))
  have OP := hid (HO.out.pairs.below bw2)
  have OQ := hid (HO.out.queue.below bw2)
  clear hnn hb2 k0 k1 k2 k3 k4 P2 R24 R34 R1 R2 R3
  rcases hcode with rfl | rfl
  · go_wp2_with fail
    go_region
    go_wp2_with fail
    have hnn := HN.out
    have hOP := OP.out
    have hOQ := OQ.out
    have hBB := HBB.out
    refine bodyPost_ret (v := .tuple #[.agg #[.slice A1 s.pairs.length c1, .slice A2 s.queue.length c2], .agg #[.int .i64 1, .bool false, .string ByteArray.empty, .slice none 0 0, .slice none 0 0, .int .u64 0]])
      (by simp [results, Tryz.results35, go_sem, l2, l3, v20, v21, v30, v31, v32, v33, v34, v35]; rfl) rfl ⟨A1, c1, A2, c2, none, 0, none, 0, rfl, ⟨?_, ?_, HO.out.apart⟩, Own.none_, Own.none_, ?_⟩
    · refine Own.lower (lo := n + 4) ?_ (by omega)
      repeat (first | with_reducible exact hOP | with_reducible refine Own.drew ?_ | with_reducible refine Own.alloc ?_ _ | with_reducible refine Own.setCell ?_ (by first | (show w.heap.size + 1 + 1 < n + 4; omega) | (show w.heap.size + 1 + 1 + 1 < n + 4; omega)) _)
    · refine Own.lower (lo := n + 4) ?_ (by omega)
      repeat (first | with_reducible exact hOQ | with_reducible refine Own.drew ?_ | with_reducible refine Own.alloc ?_ _ | with_reducible refine Own.setCell ?_ (by first | (show w.heap.size + 1 + 1 < n + 4; omega) | (show w.heap.size + 1 + 1 + 1 < n + 4; omega)) _)
    · repeat (first | with_reducible exact hBB | with_reducible refine Below.drew ?_ | with_reducible refine Below.alloc ?_ (by first | omega | (simp; omega)) _ | with_reducible refine Below.setCell ?_ (by first | (show w.heap.size ≤ w.heap.size + 1 + 1; omega) | (show w.heap.size ≤ w.heap.size + 1 + 1 + 1; omega)) _)
  · go_wp2_with fail
    go_region
    go_wp2_with fail
    have hnn := HN.out
    have hOP := OP.out
    have hOQ := OQ.out
    have hBB := HBB.out
    refine bodyPost_ret (v := .tuple #[.agg #[.slice A1 s.pairs.length c1, .slice A2 s.queue.length c2], .agg #[.int .i64 5, .bool false, .string ByteArray.empty, .slice none 0 0, .slice none 0 0, .int .u64 0]])
      (by simp [results, Tryz.results35, go_sem, l2, l3, v20, v21, v30, v31, v32, v33, v34, v35]; rfl) rfl ⟨A1, c1, A2, c2, none, 0, none, 0, rfl, ⟨?_, ?_, HO.out.apart⟩, Own.none_, Own.none_, ?_⟩
    · refine Own.lower (lo := n + 4) ?_ (by omega)
      repeat (first | with_reducible exact hOP | with_reducible refine Own.drew ?_ | with_reducible refine Own.alloc ?_ _ | with_reducible refine Own.setCell ?_ (by first | (show w.heap.size + 1 + 1 < n + 4; omega) | (show w.heap.size + 1 + 1 + 1 < n + 4; omega)) _)
    · refine Own.lower (lo := n + 4) ?_ (by omega)
      repeat (first | with_reducible exact hOQ | with_reducible refine Own.drew ?_ | with_reducible refine Own.alloc ?_ _ | with_reducible refine Own.setCell ?_ (by first | (show w.heap.size + 1 + 1 < n + 4; omega) | (show w.heap.size + 1 + 1 + 1 < n + 4; omega)) _)
    · repeat (first | with_reducible exact hBB | with_reducible refine Below.drew ?_ | with_reducible refine Below.alloc ?_ (by first | omega | (simp; omega)) _ | with_reducible refine Below.setCell ?_ (by first | (show w.heap.size ≤ w.heap.size + 1 + 1; omega) | (show w.heap.size ≤ w.heap.size + 1 + 1 + 1; omega)) _)
theorem apply_any (s : Shelf) (PA : Option Addr) (pc : Nat) (QA : Option Addr) (qc : Nat) (c : Call0) (g : List Call0) (w : World) (h : ShIn w w.heap.size PA pc QA qc s) (hp : s.pairs.length ≤ 90000) (hq : s.queue.length ≤ 90000) (hc : CallIn w w.heap.size c g) :
    Calls Tryz.prog 35 #[.agg #[.slice PA s.pairs.length pc, .slice QA s.queue.length qc], .agg #[.int .i64 c.kind, .string c.key, .string c.val, .string c.to, .slice c.gA c.gn c.gc]] w (GivesAp (apS c g s) (apA c g s) w) := by
  unfold apS apA
  rcases goodI_bit' c g with hg | hg | hg
  · rw [if_pos hg, if_pos hg]
    by_cases h7 : c.kind = 7
    · rw [if_pos h7, if_pos h7]
      exact apply_group s PA pc QA qc c g w h hp hq hc hg h7
    · rw [if_neg h7, if_neg h7]
      have hk := good_kind hg
      exact apply_flat s PA pc QA qc c g w h (by omega) (by omega) hc hg h7 (by omega)
  · rw [if_neg (by omega), if_neg (by omega), hg]
    exact apply_bad s PA pc QA qc c g w h (by omega) (by omega) hc 1 hg (.inl rfl)
  · rw [if_neg (by omega), if_neg (by omega), hg]
    exact apply_bad s PA pc QA qc c g w h (by omega) (by omega) hc 5 hg (.inr rfl)
end Go.Proofs.YtamcehfcjcmpmaaGreatDoor
