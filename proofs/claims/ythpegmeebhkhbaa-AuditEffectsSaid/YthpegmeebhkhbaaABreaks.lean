/- The statement AuditBreaks: the walk. -/
import Derived.Test.YthpegmeebhkhbaaPref
import Derived.Test.YthpegmeebhkhbaaAud2
import Derived.Test.YthpegmeebhkhbaaIdl11
import Derived.Deep.DeepCutAuto
namespace Go.Proofs.Ythpegmeebhkhbaa
open Go.RowKit

theorem info_eff : (Try.prog.info? 86).map (fun i => (i.zero, i.size, i.bytes)) = some (some (.agg #[.int .i64 0, .string ByteArray.empty, .string ByteArray.empty, .int .u64 0, .int .u64 0, .int .u64 0, .int .i64 0]), 7, 72) := by kernel_rfl
theorem keep4 {W W' : World} {p q : Nat} {u0 u1 v0 v1 : Value} (hb : Below W.heap.size W W') (hp : p < W.heap.size) (hq : q < W.heap.size)
    (h : W.cell? ⟨p, 0, none⟩ = some u0 ∧ W.cell? ⟨p, 1, none⟩ = some u1 ∧ W.cell? ⟨q, 0, none⟩ = some v0 ∧ W.cell? ⟨q, 1, none⟩ = some v1) :
    W'.cell? ⟨p, 0, none⟩ = some u0 ∧ W'.cell? ⟨p, 1, none⟩ = some u1 ∧ W'.cell? ⟨q, 0, none⟩ = some v0 ∧ W'.cell? ⟨q, 1, none⟩ = some v1 := by
  rw [hb.cell (p := ⟨p, 0, none⟩) hp, hb.cell (p := ⟨p, 1, none⟩) hp, hb.cell (p := ⟨q, 0, none⟩) hq, hb.cell (p := ⟨q, 1, none⟩) hq]
  exact h
theorem own_row {α : Type} {enc : α → List Value} {e : TypeId} {k : Nat} {w : World} {lo : Nat} {A : Option Addr} {c : Nat} {l : List α} (h : Own enc e k w lo A c l) {j : Nat} (hj : some j = rowOf A c ∨ rowOf A c = some j) : lo ≤ j := by
  unfold rowOf at hj
  rcases h.lt with h0 | ⟨b, off, rfl, hlo, _⟩
  · rw [if_pos h0] at hj; simp at hj
  · split at hj
    · simp at hj
    · simp at hj; omega
/-- the store under a name -/
def GivesShS (l : List Eff) (upto : Int) (w : World) (e : Ending) (w' : World) : Prop :=
  ∃ S PA pc QA qc, Hid (S = replay l upto) ∧ e = .returned (.agg #[.slice PA S.pairs.length pc, .slice QA S.queue.length qc]) ∧ ShOwn w' w.heap.size PA pc QA qc S ∧ Below w.heap.size w w'
theorem replay_anyS (l : List Eff) (A : Option Addr) (c : Nat) (upto : Int) (w : World) (h : Arr Eff.enc 7 w w.heap.size A l) (hc : l.length ≤ c) (hm : c ≤ 9223372036854775807) (hl : l.length ≤ 60) :
    Calls Try.prog 25 #[.slice A l.length c, .int .u64 upto] w (GivesShS l upto w) :=
  (replay_any l A c upto w h hc hm (by omega)).mono fun _ _ ⟨PA, pc, QA, qc, h1, h2, h3⟩ => ⟨_, PA, pc, QA, qc, hid rfl, h1, h2, h3⟩
theorem prefix_anyS (l : List Eff) (A : Option Addr) (c : Nat) (upto : Int) (S s : Shelf) (hS : Hid (S = replay l upto)) (PA : Option Addr) (pc : Nat) (QA : Option Addr) (qc : Nat) (w : World) (hA : Arr Eff.enc 7 w w.heap.size A l) (hc : l.length ≤ c) (hm : c ≤ 9223372036854775807) (hl : l.length ≤ 60) (h : ShIn w w.heap.size PA pc QA qc s) :
    Calls Try.prog 26 #[.slice A l.length c, .int .u64 upto, .agg #[.slice PA s.pairs.length pc, .slice QA s.queue.length qc]] w fun e w' => e = .returned (.bool (sameS S s)) ∧ Below w.heap.size w w' := by
  rw [hS.out]
  exact prefix_any l A c upto s PA pc QA qc w hA hc hm hl h
/-- all but one, laid anew -/
def Lessed (l : List Eff) (i : Nat) (w wx : World) (v : Value) : Prop :=
  ∃ A c, v = .slice A (l.take i ++ l.drop (i + 1)).length c ∧ Arr Eff.enc 7 wx wx.heap.size A (l.take i ++ l.drop (i + 1)) ∧ (l.take i ++ l.drop (i + 1)).length ≤ c ∧ c ≤ 9223372036854775807 ∧ Below w.heap.size w wx
set_option maxHeartbeats 4000000 in
set_option maxRecDepth 100000 in
theorem auditBreaks_any (l : List Eff) (A : Option Addr) (c : Nat) (k : Int) (w : World) (hA : Arr Eff.enc 7 w w.heap.size A l) (hc : l.length ≤ c) (hm : c ≤ 9223372036854775807) :
    Calls Try.prog 6 #[.slice A l.length c, .int .i64 k] w fun e w' => e = .returned (.bool true) ∧ Below w.heap.size w w' := by
  have HA := hid hA
  clear hA
  obtain ⟨i0, hi0, hz0, hz1, hz2⟩ := info_parts info_eff
  have HI := hid hi0
  have HZ0 := hid hz0
  have HZ1 := hid hz1
  have HZ2 := hid hz2
  clear hi0 hz0 hz1 hz2
  go_enter Try.func6, Try.ntmps6
  go_wp2_with fail
  refine (few_any l A c ⟨[], []⟩ none 0 none 0 _ HA.out hc hm ⟨Arr.nil, Nat.le_refl _, by simp, Arr.nil, Nat.le_refl _, by simp⟩).mono ?_
  rintro e w1 ⟨r, rfl, hb1, hl⟩
  have bw1 := hb1
  cases r with
  | false =>
    go_wp2_with fail
    refine (awake26 _).mono ?_
    rintro e w2 ⟨rfl, hb2⟩
    go_wp2
    go_ret
    exact ⟨rfl, bw1.trans (hb2.mono bw1.size)⟩
  | true =>
  have hl60 := hl rfl
  by_cases h0 : l = []
  case pos =>
    subst h0
    simp only [List.length_nil] at *
    go_wp2_with fail
    refine (awake26 _).mono ?_
    rintro e w2 ⟨rfl, hb2⟩
    go_wp2
    go_ret
    exact ⟨rfl, bw1.trans (hb2.mono bw1.size)⟩
  have hpos : 0 < l.length := List.length_pos_iff.2 h0
  have hne : ¬ ((l.length : Nat) : Int) = 0 := by omega
  have hlo := low_lo k (l.length : Int) (by omega)
  have hhi := low_hi k (l.length : Int) (by omega)
  obtain ⟨i, hi⟩ : ∃ i : Nat, low k (l.length : Int) = (i : Int) := ⟨(low k (l.length : Int)).toNat, by omega⟩
  have hil : i < l.length := by omega
  have hLow := fun w => low_any k (l.length : Int) (by omega) (by omega) w
  rw [hi] at hLow
  have HLOW := hid hLow
  clear hLow hlo hhi hi hl hb1 h0
  obtain ⟨p, hp⟩ : ∃ p, p = l.take i := ⟨_, rfl⟩
  obtain ⟨q, hq⟩ : ∃ q, q = l.drop (i + 1) := ⟨_, rfl⟩
  have hpl : p.length = i := by rw [hp, List.length_take]; omega
  have hql : q.length = l.length - (i + 1) := by rw [hq, List.length_drop]
  have HAW := HA.out.below bw1
  have hAp : Arr Eff.enc 7 w1 w.heap.size A p := by rw [hp]; exact HAW.take i
  have hAq : Arr Eff.enc 7 w1 w.heap.size (if c = i + 1 then A else A.map (·.add ((i + 1) * 7))) q := by rw [hq]; exact HAW.drop (by omega) hc
  rcases HAW with h | ⟨b, off, rfl, hB, -⟩
  · subst h; simp at hpos
  have HP := hid hAp
  have HQ := hid hAq
  have HEQ := hid (And.intro hp hq)
  subst hpl
  clear hp hq hAp hAq
  go_wp2_with fail
  refine (HLOW.out _).mono ?_
  rintro e w' ⟨rfl, rfl⟩
  obtain ⟨r, hr⟩ : ∃ r, r = p ++ q := ⟨_, rfl⟩
  have HR := hid hr
  have hrl : r.length ≤ 60 := by rw [hr, List.length_append]; omega
  clear hr
  go_upto_region 4 with fail
  go_cut [6] (fun v6 wx => ∃ A' c', v6 = .slice A' r.length c' ∧ Arr Eff.enc 7 wx wx.heap.size A' r ∧ r.length ≤ c' ∧ c' ≤ 9223372036854775807 ∧ Below w1.heap.size w1 wx)
  case first =>
    by_cases hcc : c = p.length + 1
    · rw [if_pos hcc] at HQ
      subst hcc
      have HZ := hid (show l.length - (p.length + 1) = 0 by omega)
      have i1 : (0 : Int) ≤ (p.length : Int) := by omega
      have i2 : (p.length : Int) ≤ (p.length : Int) + 1 := by omega
      have i4 : (p.length : Int) + 1 ≤ (l.length : Int) := by omega
      have i5 : (0 : Int) ≤ (p.length : Int) + 1 := by omega
      have i6 : (l.length : Int) ≤ (p.length : Int) + 1 := by omega
      have i7 : IntKind.i64.wrap ((p.length : Int) + 1) = (p.length : Int) + 1 := Go.IntWalk.i64_in _ (by omega)
      have i9 : (p.length : Int) ≤ (l.length : Int) := by omega
      go_region_held3 (fun W => Below w1.heap.size w1 W) (first | exact (by repeat (first | with_reducible exact Below.refl _ _ | with_reducible assumption | with_reducible refine Below.drew ?_ | with_reducible refine below_drewN ?_ _ | with_reducible refine Below.alloc ?_ (by first | omega | (simp; done) | (simp; omega)) _ | with_reducible refine Below.setCell ?_ (by first | omega | (simp; done) | (simp; omega)) _)) | go_keep) (first | (refine step_append_Own (l := []) (m := p) (A := none) (c := 0) (lo := w1.heap.size) (B := w.heap.size) _ (by rfl) (.const (.slice none 0 0)) (.tmp 25) 36 (by rfl) i0 _ 72 Try.underlying36 HI.out HZ0.out HZ1.out HZ2.out rfl (by decide) Eff.enc_len Eff.enc_one (by rfl) Own.none_ (p.length + 1) (by rfl) HP.out (by unfold maxLen; rw [List.length_nil]; omega) (by rw [List.length_nil]; omega) (by first | (simp; done) | (simp; omega) | omega) ?_; intro AP cP wP hownP hgrP hlocP; have hbP : Below w1.heap.size w1 wP := belowG hgrP (by repeat (first | exact Below.refl _ _ | assumption | refine Below.drew ?_ | refine below_drewN ?_ _ | refine Below.alloc ?_ (by first | omega | (simp; done) | (simp; omega)) _ | refine Below.setCell ?_ (by first | omega | (simp; done) | (simp; omega)) _))) | (refine step_append_Own (l := p) (m := q) (A := AP) (c := cP) (lo := w1.heap.size) (B := w.heap.size) _ (by rfl) (.tmp 26) (.tmp 30) 36 (by rfl) i0 _ 72 Try.underlying36 HI.out HZ0.out HZ1.out HZ2.out rfl (by decide) Eff.enc_len Eff.enc_one (by first | rfl | simp [Act.eval]) (by simpa using hownP) 0 (by first | rfl | (simp [Act.eval, hql]; exact HZ.out.symm)) (HQ.out.below (hbP.mono bw1.size)) (by unfold maxLen; omega) (by omega) hbP.size ?_; intro A3 c3 w3 hown3 hgr3 hloc3; have hb3 : Below w1.heap.size w1 w3 := hbP.grown hgr3 hbP.size (fun j hj => own_row hownP (by first | exact .inl hj | exact .inr hj))))
      go_wp2_with fail
      go_meet
      rw [← HR.out] at hown3
      refine ⟨A3, c3, by simp [hql, HR.out, HZ.out], hown3.arr Eff.enc_len, hown3.len, hown3.max, hb3⟩
    · rw [if_neg hcc] at HQ
      have HQ2 := hid (show Arr Eff.enc 7 w1 w.heap.size (some ⟨b, off + (p.length + 1) * 7, none⟩) q from by simpa [Addr.add] using HQ.out)
      have h1 : p.length + 1 ≤ l.length := by omega
      have i1 : (0 : Int) ≤ (p.length : Int) := by omega
      have i2 : (p.length : Int) ≤ (c : Int) := by omega
      have i3 : (p.length : Int) ≤ (l.length : Int) := by omega
      have i4 : (p.length : Int) + 1 ≤ (l.length : Int) := by omega
      have i5 : (0 : Int) ≤ (p.length : Int) + 1 := by omega
      have i6 : (l.length : Int) ≤ (c : Int) := by omega
      have i7 : IntKind.i64.wrap ((p.length : Int) + 1) = (p.length : Int) + 1 := Go.IntWalk.i64_in _ (by omega)
      have i8 : (p.length : Int) + 1 ≤ (c : Int) := by omega
      go_region_held3 (fun W => Below w1.heap.size w1 W) (first | exact (by repeat (first | with_reducible exact Below.refl _ _ | with_reducible assumption | with_reducible refine Below.drew ?_ | with_reducible refine below_drewN ?_ _ | with_reducible refine Below.alloc ?_ (by first | omega | (simp; done) | (simp; omega)) _ | with_reducible refine Below.setCell ?_ (by first | omega | (simp; done) | (simp; omega)) _)) | go_keep) (first | (refine step_append_Own (l := []) (m := p) (A := none) (c := 0) (lo := w1.heap.size) (B := w.heap.size) _ (by rfl) (.const (.slice none 0 0)) (.tmp 25) 36 (by rfl) i0 _ 72 Try.underlying36 HI.out HZ0.out HZ1.out HZ2.out rfl (by decide) Eff.enc_len Eff.enc_one (by rfl) Own.none_ c (by rfl) HP.out (by unfold maxLen; rw [List.length_nil]; omega) (by rw [List.length_nil]; omega) (by first | (simp; done) | (simp; omega) | omega) ?_; intro AP cP wP hownP hgrP hlocP; have hbP : Below w1.heap.size w1 wP := belowG hgrP (by repeat (first | exact Below.refl _ _ | assumption | refine Below.drew ?_ | refine below_drewN ?_ _ | refine Below.alloc ?_ (by first | omega | (simp; done) | (simp; omega)) _ | refine Below.setCell ?_ (by first | omega | (simp; done) | (simp; omega)) _))) | (refine step_append_Own (l := p) (m := q) (A := AP) (c := cP) (lo := w1.heap.size) (B := w.heap.size) _ (by rfl) (.tmp 26) (.tmp 30) 36 (by rfl) i0 _ 72 Try.underlying36 HI.out HZ0.out HZ1.out HZ2.out rfl (by decide) Eff.enc_len Eff.enc_one (by first | rfl | simp [Act.eval]) (by simpa using hownP) (c - (p.length + 1)) (by first | rfl | (simp [Act.eval, hql]; done)) (HQ2.out.below (hbP.mono bw1.size)) (by unfold maxLen; omega) (by omega) hbP.size ?_; intro A3 c3 w3 hown3 hgr3 hloc3; have hb3 : Below w1.heap.size w1 w3 := hbP.grown hgr3 hbP.size (fun j hj => own_row hownP (by first | exact .inl hj | exact .inr hj))))
      go_wp2_with fail
      go_meet
      rw [← HR.out] at hown3
      refine ⟨A3, c3, by simp [hql, HR.out], hown3.arr Eff.enc_len, hown3.len, hown3.max, hb3⟩
  case rest =>
    obtain ⟨A', c', rfl, hArr, hl', hm', bwx⟩ := hcut
    have HAR := hid hArr
    have bwc : Below w.heap.size w wc := bw1.trans (bwx.mono bw1.size)
    have HBC := hid bwc
    clear hArr bwx bw1 HP HQ HLOW HEQ
    go_wp2_with fail
    have h2 := fun u => replay_anyS l _ c u wc ((HA.out.below bwc).more bwc.size) hc hm hl60
    refine (h2 _).mono ?_
    clear h2
    rintro e w2 ⟨S, PX, px, QX, qx, HS, rfl, hownX, hb2⟩
    have HX := hid hownX
    have bw2 : Below wc.heap.size wc w2 := hb2
    clear hownX hb2
    go_wp2_with fail
    have h2 := fun u => replay_anyS r _ c' u w2 ((HAR.out.below bw2).more bw2.size) hl' hm' hrl
    refine (h2 _).mono ?_
    clear h2
    rintro e w3 ⟨T, PY, py, QY, qy, HT, rfl, hownY, hb3⟩
    have HY := hid hownY
    have bw3 : Below w2.heap.size w2 w3 := hb3
    clear hownY hb3
    have HB3 := hid (HBC.out.trans ((bw2.trans (bw3.mono bw2.size)).mono HBC.out.size))
    have HXC := hid (HX.out.below bw3).in_
    have HYC := hid HY.out.in_
    have eqS : (sameS S T == sameS S T) = true := by simp
    clear bwc bw2 bw3 HBC HX HY HAR
    go_upto_region 6 with fail
    obtain ⟨W, hW⟩ : ∃ W, W = (w3.alloc (.cells #[.slice PX S.pairs.length px, .slice QX S.queue.length qx] 41)).alloc (.cells #[.slice PY T.pairs.length py, .slice QY T.queue.length qy] 41) := ⟨_, rfl⟩
    rw [← hW]
    have hb3W : Below w3.heap.size w3 W := by rw [hW]; exact (by repeat (first | exact Below.refl _ _ | assumption | refine Below.drew ?_ | refine below_drewN ?_ _ | refine Below.alloc ?_ (by first | omega | (simp; done) | (simp; omega)) _ | refine Below.setCell ?_ (by first | omega | (simp; done) | (simp; omega)) _))
    have hn7 : w3.heap.size < W.heap.size := by rw [hW]; simp; omega
    have hn8 : w3.heap.size + 1 < W.heap.size := by rw [hW]; simp
    have hall : W.cell? ⟨w3.heap.size, 0, none⟩ = some (.slice PX S.pairs.length px) ∧ W.cell? ⟨w3.heap.size, 1, none⟩ = some (.slice QX S.queue.length qx) ∧ W.cell? ⟨w3.heap.size + 1, 0, none⟩ = some (.slice PY T.pairs.length py) ∧ W.cell? ⟨w3.heap.size + 1, 1, none⟩ = some (.slice QY T.queue.length qy) := by
      rw [hW]
      refine ⟨?_, ?_, ?_, ?_⟩ <;> simp [go_sem]
    clear hW
    have bwW : Below w.heap.size w W := HB3.out.trans (hb3W.mono HB3.out.size)
    have HBW := hid bwW
    have hXX : ∀ X, Below W.heap.size W X → ShIn X X.heap.size PX px QX qx S := fun X hX => in_below (in_below HXC.out hb3W) hX
    have hYX : ∀ X, Below W.heap.size W X → ShIn X X.heap.size PY py QY qy T := fun X hX => in_below (in_below HYC.out hb3W) hX
    have hPre := fun X (hX : Below W.heap.size W X) => prefix_anyS l _ c _ S T HS PY py QY qy X ((HA.out.below (bwW.trans (hX.mono bwW.size))).more (bwW.trans (hX.mono bwW.size)).size) hc hm hl60 (hYX X hX)
    have HPRE := hid hPre
    have HSAM := hid (fun X (hX : Below W.heap.size W X) => sameS_any S T PX px QX qx PY py QY qy X (hXX X hX) (hYX X hX))
    clear hXX hYX hPre bwW hb3W
    obtain ⟨x1, x2, y1, y2⟩ := hall
    have HALL := hid (show W.cell? ⟨w3.heap.size, 0, none⟩ = some (.slice PX S.pairs.length px) ∧ W.cell? ⟨w3.heap.size, 1, none⟩ = some (.slice QX S.queue.length qx) ∧ W.cell? ⟨w3.heap.size + 1, 0, none⟩ = some (.slice PY T.pairs.length py) ∧ W.cell? ⟨w3.heap.size + 1, 1, none⟩ = some (.slice QY T.queue.length qy) from ⟨x1, x2, y1, y2⟩)
    go_region_held3 (fun w' => w'.cell? ⟨w3.heap.size, 0, none⟩ = some (.slice PX S.pairs.length px) ∧ w'.cell? ⟨w3.heap.size, 1, none⟩ = some (.slice QX S.queue.length qx) ∧ w'.cell? ⟨w3.heap.size + 1, 0, none⟩ = some (.slice PY T.pairs.length py) ∧ w'.cell? ⟨w3.heap.size + 1, 1, none⟩ = some (.slice QY T.queue.length qy)) (first | exact keep4 (W := W) (by repeat (first | with_reducible exact Below.refl _ _ | with_reducible assumption | with_reducible refine Below.drew ?_ | with_reducible refine below_drewN ?_ _ | with_reducible refine Below.alloc ?_ (by first | omega | (simp; done) | (simp; omega)) _ | with_reducible refine Below.setCell ?_ (by first | omega | (simp; done) | (simp; omega)) _)) hn7 hn8 HALL.out | go_keep) (first | (go_at_call 26; refine (HPRE.out _ ?_).mono ?_; (exact (by repeat (first | with_reducible exact Below.refl _ _ | with_reducible assumption | with_reducible refine Below.drew ?_ | with_reducible refine below_drewN ?_ _ | with_reducible refine Below.alloc ?_ (by first | omega | (simp; done) | (simp; omega)) _ | with_reducible refine Below.setCell ?_ (by first | omega | (simp; done) | (simp; omega)) _))); rintro e wP ⟨rfl, hbP⟩; have stP : Below W.heap.size W wP := (by refine Below.trans ?_ (hbP.mono ?_); exact (by repeat (first | with_reducible exact Below.refl _ _ | with_reducible assumption | with_reducible refine Below.drew ?_ | with_reducible refine below_drewN ?_ _ | with_reducible refine Below.alloc ?_ (by first | omega | (simp; done) | (simp; omega)) _ | with_reducible refine Below.setCell ?_ (by first | omega | (simp; done) | (simp; omega)) _)); (first | exact Nat.le_refl _ | (simp; done) | exact stS.size | exact stS.size))) | (go_at_call 27; refine (HSAM.out _ ?_).mono ?_; (exact (by repeat (first | with_reducible exact Below.refl _ _ | with_reducible assumption | with_reducible refine Below.drew ?_ | with_reducible refine below_drewN ?_ _ | with_reducible refine Below.alloc ?_ (by first | omega | (simp; done) | (simp; omega)) _ | with_reducible refine Below.setCell ?_ (by first | omega | (simp; done) | (simp; omega)) _))); rintro e wS ⟨rfl, hbS⟩; have stS : Below W.heap.size W wS := (by refine Below.trans ?_ (hbS.mono ?_); exact (by repeat (first | with_reducible exact Below.refl _ _ | with_reducible assumption | with_reducible refine Below.drew ?_ | with_reducible refine below_drewN ?_ _ | with_reducible refine Below.alloc ?_ (by first | omega | (simp; done) | (simp; omega)) _ | with_reducible refine Below.setCell ?_ (by first | omega | (simp; done) | (simp; omega)) _)); (first | exact Nat.le_refl _ | (simp; done) | exact stP.size | exact stP.size))) | (go_at_call 21; refine (awake26 _).mono ?_; rintro e wZ ⟨rfl, hbZ⟩; have stZ : Below W.heap.size W wZ := (by refine Below.trans ?_ (hbZ.mono ?_); exact (by repeat (first | with_reducible exact Below.refl _ _ | with_reducible assumption | with_reducible refine Below.drew ?_ | with_reducible refine below_drewN ?_ _ | with_reducible refine Below.alloc ?_ (by first | omega | (simp; done) | (simp; omega)) _ | with_reducible refine Below.setCell ?_ (by first | omega | (simp; done) | (simp; omega)) _)); (first | exact Nat.le_refl _ | (simp; done) | exact stP.size | exact stS.size))))
    go_wp2
    go_ret
    exact ⟨rfl, HBW.out.trans (stZ.mono HBW.out.size)⟩
end Go.Proofs.Ythpegmeebhkhbaa
