/- A part of the walk. -/
import Derived.Test.YtecikkjbnkhhkaaGreatP31
namespace Go.Proofs.YtecikkjbnkhhkaaGreat
open _root_.Go.Proofs.Tryz
set_option maxHeartbeats 1000000
set_option maxRecDepth 100000
section
open Go.RowKit
theorem qj1 : (prog.info? 330).map (fun i => (i.zero, i.size, i.bytes)) = some (some (.agg qAa.enc.toArray), 8, 72) := by kernel_rfl
theorem qAh (n : Nat) (hn : n ≤ 1000000) (W : World) : (Instr.makeSlice 87 (.int .i64 (n : Int)) (.int .i64 (n : Int))).run prog W = .ok (.slice (some ⟨W.heap.size, 0, none⟩) n n) (W.alloc (.cells (madeCells qAa.enc.toArray (n * 8)) 330)) := by
 obtain ⟨i0, hi, hz0, hz1, hz2⟩ := info_parts qj1; have h := run_make (P := prog) W 87 330 i0 _ underlying87 hi hz0 .i64 .i64 (n : Int) (n : Int) (by omega) (by omega) (by rw [hz2]; omega) (by omega); rw [hz1] at h; simp only [Int.toNat_natCast] at h; rw [h]; rfl
theorem qe3 {q : Nat} {t : TypeId} : ∀ (vs : List Value) (o : Nat) (w : World) (cur : Array Value), w.heap[q]? = some (.cells cur t (0, 0)) → ∃ cur', (w.setCells q o vs).heap[q]? = some (.cells cur' t (0, 0)) ∧ cur'.size = cur.size
 | [], _, _, cur, h => ⟨cur, h, rfl⟩
 | v :: r, o, w, cur, h => by
  obtain ⟨cur', h1, h2⟩ := qe3 r (o + 1) (w.setCell ⟨q, o, none⟩ v) _ (heap_setCell_same w q o _ _ v h)
  exact ⟨cur', h1, by rw [h2]; simp⟩
theorem qid {w : World} {q : Nat} {A B : List Value} (h1 : w.rangeAt q 0 A) (h2 : w.rangeAt q A.length B) : w.rangeAt q 0 (A ++ B) := fun j v hv => by
 by_cases hj : j < A.length
 · rw [List.getElem?_append_left hj] at hv
   exact h1 j v hv
 · rw [List.getElem?_append_right (by omega)] at hv
   have := h2 _ v hv
   rw [show A.length + (j - A.length) = 0 + j by omega] at this
   exact this
def qih (w : World) (q n : Nat) (x : qas) (k : Nat) : Prop := (∃ cur, w.heap[q]? = some (.cells cur 330 (0, 0)) ∧ cur.size = n * 8) ∧ w.rangeAt q 0 ((List.replicate k x).flatMap qas.enc)
theorem qfq (k : Nat) (x : qas) : ((List.replicate k x).flatMap qas.enc).length = k * 8 := by
 induction k with
 | zero => rfl
 | succ k ih => rw [List.replicate_succ, List.flatMap_cons, List.length_append, ih, qas.enc_len]; omega
theorem qih.copy {w : World} {q n : Nat} {x : qas} {k m : Nat} (h : qih w q n x k) (hk : k + m ≤ n) : qih (w.setCells q (k * 8) ((List.replicate m x).flatMap qas.enc)) q n x (k + m) := by
 obtain ⟨⟨cur, h1, h2⟩, h3⟩ := h; obtain ⟨cur', h4, h5⟩ := qe3 ((List.replicate m x).flatMap qas.enc) (k * 8) w cur h1; refine ⟨⟨cur', h4, by omega⟩, ?_⟩; rw [← List.replicate_append_replicate, List.flatMap_append]; refine qid (World.rangeAt_setCells_apart h3 q (k * 8) _ (.inr (.inl (by rw [qfq]; omega)))) ?_; rw [qfq]; exact World.rangeAt_setCells_same w q (k * 8) _ (fun j hj => by rw [qfq] at hj; have := qai h1 h2 (k * 8 + j) (by omega); rw [Nat.zero_add] at this; exact this)
theorem qih.own {w : World} {q n lo : Nat} {x : qas} (h : qih w q n x n) (hlo : lo ≤ q) (hn : n ≤ 1000000) : Own qas.enc 330 8 w lo (some ⟨q, 0, none⟩) n (List.replicate n x) := by
 obtain ⟨⟨cur, h1, h2⟩, h3⟩ := h; refine ⟨by simp, by unfold maxLen; omega, .inr ⟨q, 0, cur, rfl, hlo, h1, by omega, fun j u hu => ?_⟩⟩; have := h3 j u hu; rw [cell_of_row w q (0 + j) _ _ _ h1] at this; exact this
def qxn (x : qas) (n : Nat) (w : World) (e : Ending) (w' : World) : Prop := ∃ A, e = .returned (.slice A n n) ∧ Own qas.enc 330 8 w' w.heap.size A n (List.replicate n x) ∧ Below w.heap.size w w'
theorem qn6 (x : qas) (p : Nat) (n : Nat) (w : World) (hx : w.heap[p]? = some (.cells x.enc.toArray 330 (0, 0))) (h1 : 1 ≤ n) (hn : n ≤ 1000000) : Calls prog 256 #[.slice (some ⟨p, 0, none⟩) 1 1, .int .i64 (n : Int)] w (qxn x n w) := by
 have TM := hid (fun W => qz0 n hn W); have hc1 : IntKind.u64.wrap (n : Int) = (n : Int) := Go.IntWalk.u64_in _ (by omega); have hc2 : IntKind.i64.wrap (n : Int) = (n : Int) := Go.IntWalk.i64_in _ (by omega); have hn0 : decide ((n : Int) < 0) = false := decide_eq_false (by omega); have hn1 : decide ((9223372036854775807 : Int) < (n : Int)) = false := decide_eq_false (by omega); go_enter func256, ntmps256; go_wp2_with fail; refine (TM.out _).mono ?_; rintro e w1 ⟨rfl, hw1⟩; rw [hw1]; clear hw1; have MK := fun W => qAh n hn W
 go_upto_region 7 with fail; generalize hw2 : World.alloc _ _ = w2; obtain ⟨q, hq⟩ : ∃ q, q = w.heap.size := ⟨_, rfl⟩; obtain ⟨cur, R2, hcur⟩ : ∃ cur, w2.heap[q]? = some (.cells cur 330 (0, 0)) ∧ cur.size = n * 8 := ⟨_, by rw [← hw2, hq]; exact (qa2 _ _ _).trans (if_pos rfl), size_madeCells _ _⟩; have b2 : Below w.heap.size w w2 := by rw [← hw2]; exact (Below.refl _ _).alloc (Nat.le_refl _) _
 have hx2 := qac b2 (qa0 hx) hx; obtain ⟨i0, hi0, hz0, hz1, hz2⟩ := info_parts qj1; have HQ0 : Hid (qih w2 q n x 0) := hid ⟨⟨cur, R2, hcur⟩, fun j v hv => by simp at hv⟩; obtain ⟨w3, hw3⟩ : ∃ w3, w3 = w2.setCells q 0 x.enc := ⟨_, rfl⟩; have HQ1 : Hid (qih w3 q n x 1) := hid (by
  have := HQ0.out.copy (m := 1) (by omega)
  simp only [Nat.zero_mul, List.replicate_one, List.flatMap_cons, List.flatMap_nil, List.append_nil, Nat.zero_add] at this
  rw [hw3]; exact this)
 have HC1 : ∀ ty, (Builtin.copy_ #[87, 87] ty #[.slice (some ⟨q, 0, none⟩) n n, .slice (some ⟨p, 0, none⟩) 1 1]).run prog w2 = .ok (.int .i64 1) w3 := fun ty => by
  have hm : Nat.min 1 n = 1 := Nat.min_eq_left h1; have h := qcn (P := prog) w2 87 87 ty 330 i0 q 0 n n ⟨p, 0, none⟩ 1 1 x.enc underlying87 hi0 (by rw [hm, hz1]; rfl) (fun j v hv => by rw [Addr.add_mid]; exact qb5 hx2 j v hv) (fun j hj => (qai R2 hcur j (by rw [qas.enc_len] at hj; omega)).1) (fun j hj => (qai R2 hcur j (by rw [qas.enc_len] at hj; omega)).2) x.enc_one; rw [hm] at h; rw [hw3]; exact h
 have hb3 : Below w.heap.size w w3 := by rw [hw3]; exact qae (by omega) _ _ _ b2
 have HB3 := hid hb3; rw [← hq]; have HQW := hid (show w.heap.size ≤ q by omega); clear hw2 R2 hcur b2 hx2 HQ0 hw3 hb3 MK hq hx TM hc1 hc2; go_wp2_with fail; go_loopw [8] (fun v8 wr => ∃ k : Nat, 1 ≤ k ∧ k ≤ n ∧ v8 = .int .i64 (k : Int) ∧ qih wr q n x k ∧ Below w.heap.size w wr) (fun v8 _ => n - (intOf v8).toNat)
 case atStart => exact ⟨1, Nat.le_refl _, h1, rfl, HQ1.out, HB3.out⟩
 case round =>
  obtain ⟨k, hk1, hkn, rfl, hrep, hbr⟩ := hrel; have HREP := hid hrep; have HBR := hid hbr; clear hrep hbr HC1; by_cases hlt : k < n
  · have i1 : (0 : Int) ≤ (k : Int) := by omega
    have i2 : (k : Int) ≤ (n : Int) := by omega
    have i3 : (k : Int) < (n : Int) := by omega
    go_wp2_with fail; obtain ⟨m, hm⟩ : ∃ m, m = Nat.min k (n - k) := ⟨_, rfl⟩; have hmk : m ≤ k := by rw [hm]; exact Nat.min_le_left _ _
    have hmn : m ≤ n - k := by rw [hm]; exact Nat.min_le_right _ _
    have hm1 : 1 ≤ m := by rw [hm]; exact Nat.le_min.2 ⟨hk1, by omega⟩
    obtain ⟨w5, hw5⟩ : ∃ w5, w5 = wr.drew.setCells q (k * 8) ((List.replicate m x).flatMap qas.enc) := ⟨_, rfl⟩; have HR5 : Hid (qih w5 q n x (k + m)) := hid (by rw [hw5]; exact qih.copy (w := wr.drew) HREP.out (by omega)); have HB5 : Hid (Below w.heap.size w w5) := hid (by rw [hw5]; exact qae HQW.out _ _ _ HBR.out.drew); have HCk : ∀ ty, (Builtin.copy_ #[87, 87] ty #[.slice (some ⟨q, k * 8, none⟩) (n - k) (n - k), .slice (some ⟨q, 0, none⟩) k n]).run prog wr.drew = .ok (.int .i64 (m : Int)) w5 := fun ty => by
     obtain ⟨⟨cu, hc1, hc2⟩, hc3⟩ := HREP.out; have h := qcn (P := prog) wr.drew 87 87 ty 330 i0 q (k * 8) (n - k) (n - k) ⟨q, 0, none⟩ k n ((List.replicate m x).flatMap qas.enc) underlying87 hi0 (by rw [qfq, hz1, hm]) (fun j v hv => by
      rw [Addr.add_mid]
      refine hc3 j v ?_
      rw [show k = m + (k - m) by omega, ← List.replicate_append_replicate, List.flatMap_append, List.getElem?_append_left (List.getElem?_eq_some_iff.1 hv).1]
      exact hv) (fun j hj => by rw [qfq] at hj; have := (qai hc1 hc2 (k * 8 + j) (by omega)).1; rw [Nat.zero_add] at this; exact this) (fun j hj => by rw [qfq] at hj; have := (qai hc1 hc2 (k * 8 + j) (by omega)).2; rw [Nat.zero_add] at this; exact this) (fun v hv => by
      obtain ⟨y, hy, hvy⟩ := List.mem_flatMap.1 hv
      rw [List.eq_of_mem_replicate hy] at hvy
      exact x.enc_one v hvy)
     rw [← hm] at h; rw [hw5]; exact h
    have i4 : IntKind.i64.wrap ((k : Int) + (m : Int)) = ((k + m : Nat) : Int) := by rw [Go.IntWalk.i64_in _ (by omega)]; omega
    clear hw5; go_region; have HM := hid hm; go_wp2_with fail; go_roundw
    case measure => rw [← HM.out]; simp [intOf]; omega
    case rel => exact ⟨k + m, by omega, by omega, by rw [← HM.out]; simp, HR5.out, HB5.out⟩
  · have i3 : ¬ (k : Int) < (n : Int) := by omega
    obtain rfl : k = n := by omega
    go_wp2_with fail; go_ret; exact ⟨_, rfl, HREP.out.own HQW.out hn, HBR.out⟩
end
section
open Go.RowKit
section
variable {g : Own8} {w w' : World} {lo a b t : Nat} {P : qag} {M : qa4} {ty : TypeId} {f : qa5} {d : FrD}
theorem WSt.newParts (h : WSt g w lo a P M b t ty f d) (hb : Below w.heap.size w w') {A : Option Addr} {c n' : Nat} {ps' : List qas} (hown : Own qas.enc 330 8 w' w.heap.size A c ps') (hn : n' = ps'.length) (hlo : lo ≤ w.heap.size) : WSt g (w'.setCell ⟨b, 23, none⟩ (.slice A n' c)) lo a P M b t ty { f with pA := A, pn := n', pc := c } { d with ps := ps' } := by
 have hne := h.hty.ne; have hl := h.box.lt; have hfar := h.ar.far; have h := h.below hb; have hk : ∀ j, j ≠ b → (w'.setCell ⟨b, 23, none⟩ (.slice A n' c)).heap[j]? = w'.heap[j]? := fun j hj => Below.heap_setCell _ _ _ _ hj
 have hz : w'.heap.size ≤ (w'.setCell ⟨b, 23, none⟩ (.slice A n' c)).heap.size := by rw [World.size_setCell]; exact Nat.le_refl _
 exact ⟨h.ar.set0 h.gb 23 _, h.box.set 23 _ _ rfl, h.gb, h.hty, h.grp.keep hz (fun j _ _ hj _ => hk j hj) fun _ _ => rfl,
  h.byt.keep (fun j _ _ hr => hk j fun e => h.byt.1.notBox h.box hne.1 (e ▸ hr)) fun _ _ => rfl,
  ⟨(hown.keep (w' := w'.setCell ⟨b, 23, none⟩ (.slice A n' c)) fun x _ _ hx _ => hk x (by omega)).lower hlo, hn, fun j hj => hfar j (qe4 hown j hj)⟩,
  h.hit.keep (fun j _ _ hr => hk j fun e => h.hit.1.notBox h.box hne.2.2 (e ▸ hr)) fun _ _ => rfl⟩
def qA9 : qas := ⟨false, qak, -1, 0⟩
def qyh (M : qa4) (t : Nat) (f : qa5) (d : FrD) (h0 : Nat) (M' : qa4) (f' : qa5) (d' : FrD) : Prop :=
 (d' = d ∧ qe9 f.call d.gr ≠ 0 ∧ M' = M ∧ f' = { f with code := qe9 f.call d.gr, phase := 7 }) ∨ (d' = d ∧ qe9 f.call d.gr = 0 ∧ h0 ≠ 0 ∧ M' = M ∧ f' = { f with code := 7, phase := 7 }) ∨
 (d' = { d with ps := List.replicate d.gr.length qA9 } ∧ qe9 f.call d.gr = 0 ∧ h0 = 0 ∧ M' = { M with H := M.H.set t M.rnow } ∧ ∃ A c, f' = { f with ep := M.now, pA := A, pn := d.gr.length, pc := c, at' := 0, phase := 1 })
theorem qno (h : WSt g w lo a P M b t ty f d) (ht : t < M.H.length) (hg1 : 1 ≤ d.gr.length) (hg2 : d.gr.length ≤ 1000) (hlo : lo ≤ w.heap.size) : Calls prog 200 #[.pointer (some ⟨b, 0, none⟩)] w (qal lo a P b t ty (qyh M t f d M.H[t]) g w) := by
 have H := hid h; have c0 := h.c0; have c1 := h.c1; have hl := h.box.lt; have TE := hid (qg5 h.drew ht); generalize hh0 : M.H[t] = h0 at *; clear h hh0; go_enter func200, ntmps200; go_upto_region 0 with fail; go_still_tail 11, (by kernel_rfl); change wpList _ _ _ _ _ (World.drew w); have HE1 : Hid (ExtB lo b g g w w.drew) := hid (ExtB.below (Below.refl _ _).drew); generalize hw1 : World.drew w = w1 at *; clear hw1 c0 c1 hl; go_wp2_with fail; refine TE.out.mono ?_; rintro r w2 (⟨h1, rfl, g2, W2, E2⟩ | ⟨h1, h2, rfl, g2, W2, E2⟩ | ⟨h1, h2, rfl, g2, W2, E2⟩)
 · have HW := hid W2
   have HE := hid E2; have H1 := hid h1; clear W2 E2 h1; go_wp2_with fail; exact bodyPost_ret (v := .tuple #[]) (by simp [results, results200]) rfl ⟨rfl, M, _, d, (.inl ⟨rfl, H1.out, rfl, rfl⟩), g2, HW.out, HE1.out.trans HE.out⟩
 · have HW := hid W2
   have HE := hid E2; have H1 := hid h1; have H2 := hid h2; clear W2 E2 h1 h2; go_wp2_with fail; exact bodyPost_ret (v := .tuple #[]) (by simp [results, results200]) rfl ⟨rfl, M, _, d, (.inr (.inl ⟨rfl, H1.out, H2.out, rfl, rfl⟩)), g2, HW.out, HE1.out.trans HE.out⟩
 · have HW := hid W2
   have HE := hid E2; have H1 := hid h1; have H2 := hid h2; have c7 := W2.box.c 7 rfl; have f7 := W2.box.fr 7; have hl := W2.box.lt; have HE1' := hid (HE1.out.trans HE.out); have c6 := W2.box.c 6 rfl; have c23 := W2.box.c 23 rfl; have f23 := W2.box.fr 23; have hgn := W2.grp.1.2.1; rw [hgn] at c6; have HLO := hid (show lo ≤ w2.heap.size by have := HE1'.out.only.size; omega); clear W2 E2 h1 h2 HE HE1 TE hgn; go_wp2_with fail; refine (qn6 qA9 w2.heap.size d.gr.length (w2.alloc _) ((qa2 _ _ _).trans (if_pos rfl)) hg1 (by omega)).mono ?_; rintro e w3 ⟨A, rfl, hown, hb3⟩; have b3 : Below w2.heap.size w2 w3 := ((Below.refl _ _).alloc (Nat.le_refl _) _).trans (hb3.mono (by simp)); have hown3 := hown.lower (lo' := w2.heap.size) (by simp); have W3 := HW.out.below b3; have HN4 := hid (HW.out.newParts b3 hown3 (n' := d.gr.length) (by simp) HLO.out); have HE3 := hid (HE1'.out.trans (.below b3)); have c23 := W3.box.c 23 rfl; have f23 := W3.box.fr 23; have hl := W3.box.lt; clear W3 b3 hb3 hown hown3; go_upto_region 2 with fail; generalize hw4 : World.setCell w3 _ _ = w4 at *; have H4 := hid HN4.out; have HE4 : Hid (ExtB lo b g g2 w w4) := hid (by rw [← hw4]; exact HE3.out.trans (ExtB.set 23 _)); have c22 := H4.out.box.c 22 rfl; have c7 := H4.out.box.c 7 rfl; have f22 := H4.out.box.fr 22; have f7 := H4.out.box.fr 7; have hl := H4.out.box.lt; clear hw4 HN4 HE3 c23 f23; go_wp2_with fail; refine bodyPost_ret (v := .tuple #[]) (by simp [results, results200]) rfl ⟨rfl, _, _, _, .inr (.inr ⟨rfl, H1.out, H2.out, rfl, A, d.gr.length, rfl⟩), g2, ?_, (HE4.out.trans (ExtB.set 22 _)).trans (ExtB.set 7 _)⟩; exact (H4.out.set 22 (.int .i64 0) { f with ep := M.now, pA := A, pn := d.gr.length, pc := d.gr.length, at' := 0 } rfl ⟨rfl, rfl, rfl, rfl⟩).set 7 (.int .i64 1) { f with ep := M.now, pA := A, pn := d.gr.length, pc := d.gr.length, at' := 0, phase := 1 } rfl ⟨rfl, rfl, rfl, rfl⟩
end
end
end Go.Proofs.YtecikkjbnkhhkaaGreat
