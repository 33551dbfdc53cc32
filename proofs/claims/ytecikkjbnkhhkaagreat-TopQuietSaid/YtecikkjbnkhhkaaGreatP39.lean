/- A part of the walk. -/
import Derived.Test.YtecikkjbnkhhkaaGreatP37
namespace Go.Proofs.YtecikkjbnkhhkaaGreat
open _root_.Go.Proofs.Tryz
set_option maxHeartbeats 4000000
set_option maxRecDepth 100000
section
open Go.RowKit
theorem qj1 : (prog.info? 330).map (fun i => (i.zero, i.size, i.bytes)) = some (some (.agg qAa.enc.toArray), 8, 72) := by kernel_rfl
theorem qAh (n : Nat) (hn : n ≤ 1000000) (W : World) : (Instr.makeSlice 87 (.int .i64 (n : Int)) (.int .i64 (n : Int))).run prog W = .ok (.slice (some ⟨W.heap.size, 0, none⟩) n n) (W.alloc (.cells (madeCells qAa.enc.toArray (n * 8)) 330)) := by
 obtain ⟨i0, hi, hz0, hz1, hz2⟩ := info_parts qj1; have h := run_make (P := prog) W 87 330 i0 _ underlying87 hi hz0 .i64 .i64 (n : Int) (n : Int) (by omega) (by omega) (by rw [hz2]; omega) (by omega); rw [hz1] at h; simp only [Int.toNat_natCast] at h; rw [h]; rfl
theorem qe3 {q : Nat} {t : TypeId} : ∀ (vs : List Value) (o : Nat) (w : World) (cur : Array Value), w.heap[q]? = some (.cells cur t (0, 0)) → ∃ cur', (w.setCells q o vs).heap[q]? = some (.cells cur' t (0, 0)) ∧ cur'.size = cur.size
 | [], _, _, cur, h => ⟨cur, h, rfl⟩
 | v :: r, o, w, cur, h => by
  obtain ⟨cur', h1, h2⟩ := qe3 r (o + 1) (w.setCell ⟨q, o, none⟩ v) _ (heap_setCell_same w q o _ _ v h)
  exact ⟨cur', h1, by rw [h2]; simp⟩
theorem qid {w : World} {q : Nat} {A B : List Value} (h1 : w.rangeAt q 0 A) (h2 : w.rangeAt q A.length B) : w.rangeAt q 0 (A ++ B) := fun j v hv => by
 by_cases hj : j < A.length
 · rw [List.getElem?_append_left hj] at hv
   exact h1 j v hv
 · rw [List.getElem?_append_right (by omega)] at hv
   have := h2 _ v hv
   rw [show A.length + (j - A.length) = 0 + j by omega] at this
   exact this
def qih (w : World) (q n : Nat) (x : qas) (k : Nat) : Prop := (∃ cur, w.heap[q]? = some (.cells cur 330 (0, 0)) ∧ cur.size = n * 8) ∧ w.rangeAt q 0 ((List.replicate k x).flatMap qas.enc)
theorem qfq (k : Nat) (x : qas) : ((List.replicate k x).flatMap qas.enc).length = k * 8 := by
 induction k with
 | zero => rfl
 | succ k ih => rw [List.replicate_succ, List.flatMap_cons, List.length_append, ih, qas.enc_len]; omega
theorem qih.copy {w : World} {q n : Nat} {x : qas} {k m : Nat} (h : qih w q n x k) (hk : k + m ≤ n) : qih (w.setCells q (k * 8) ((List.replicate m x).flatMap qas.enc)) q n x (k + m) := by
 obtain ⟨⟨cur, h1, h2⟩, h3⟩ := h; obtain ⟨cur', h4, h5⟩ := qe3 ((List.replicate m x).flatMap qas.enc) (k * 8) w cur h1; refine ⟨⟨cur', h4, by omega⟩, ?_⟩; rw [← List.replicate_append_replicate, List.flatMap_append]; refine qid (World.rangeAt_setCells_apart h3 q (k * 8) _ (.inr (.inl (by rw [qfq]; omega)))) ?_; rw [qfq]; exact World.rangeAt_setCells_same w q (k * 8) _ (fun j hj => by rw [qfq] at hj; have := qai h1 h2 (k * 8 + j) (by omega); rw [Nat.zero_add] at this; exact this)
theorem qih.own {w : World} {q n lo : Nat} {x : qas} (h : qih w q n x n) (hlo : lo ≤ q) (hn : n ≤ 1000000) : Own qas.enc 330 8 w lo (some ⟨q, 0, none⟩) n (List.replicate n x) := by
 obtain ⟨⟨cur, h1, h2⟩, h3⟩ := h; refine ⟨by simp, by unfold maxLen; omega, .inr ⟨q, 0, cur, rfl, hlo, h1, by omega, fun j u hu => ?_⟩⟩; have := h3 j u hu; rw [cell_of_row w q (0 + j) _ _ _ h1] at this; exact this
def qxn (x : qas) (n : Nat) (w : World) (e : Ending) (w' : World) : Prop := ∃ A, e = .returned (.slice A n n) ∧ Own qas.enc 330 8 w' w.heap.size A n (List.replicate n x) ∧ Below w.heap.size w w'
theorem qn6 (x : qas) (p : Nat) (n : Nat) (w : World) (hx : w.heap[p]? = some (.cells x.enc.toArray 330 (0, 0))) (h1 : 1 ≤ n) (hn : n ≤ 1000000) : Calls prog 256 #[.slice (some ⟨p, 0, none⟩) 1 1, .int .i64 (n : Int)] w (qxn x n w) := by
 have TM := hid (fun W => qz0 n hn W); have hc1 : IntKind.u64.wrap (n : Int) = (n : Int) := Go.IntWalk.u64_in _ (by omega); have hc2 : IntKind.i64.wrap (n : Int) = (n : Int) := Go.IntWalk.i64_in _ (by omega); have hn0 : decide ((n : Int) < 0) = false := decide_eq_false (by omega); have hn1 : decide ((9223372036854775807 : Int) < (n : Int)) = false := decide_eq_false (by omega); go_enter func256, ntmps256; go_wp2_with fail; refine (TM.out _).mono ?_; rintro e w1 ⟨rfl, hw1⟩; rw [hw1]; clear hw1; have MK := fun W => qAh n hn W
 go_upto_region 7 with fail; generalize hw2 : World.alloc _ _ = w2; obtain ⟨q, hq⟩ : ∃ q, q = w.heap.size := ⟨_, rfl⟩; obtain ⟨cur, R2, hcur⟩ : ∃ cur, w2.heap[q]? = some (.cells cur 330 (0, 0)) ∧ cur.size = n * 8 := ⟨_, by rw [← hw2, hq]; exact (qa2 _ _ _).trans (if_pos rfl), size_madeCells _ _⟩; have b2 : Below w.heap.size w w2 := by rw [← hw2]; exact (Below.refl _ _).alloc (Nat.le_refl _) _
 have hx2 := qac b2 (qa0 hx) hx; obtain ⟨i0, hi0, hz0, hz1, hz2⟩ := info_parts qj1; have HQ0 : Hid (qih w2 q n x 0) := hid ⟨⟨cur, R2, hcur⟩, fun j v hv => by simp at hv⟩; obtain ⟨w3, hw3⟩ : ∃ w3, w3 = w2.setCells q 0 x.enc := ⟨_, rfl⟩; have HQ1 : Hid (qih w3 q n x 1) := hid (by
  have := HQ0.out.copy (m := 1) (by omega)
  simp only [Nat.zero_mul, List.replicate_one, List.flatMap_cons, List.flatMap_nil, List.append_nil, Nat.zero_add] at this
  rw [hw3]; exact this)
 have HC1 : ∀ ty, (Builtin.copy_ #[87, 87] ty #[.slice (some ⟨q, 0, none⟩) n n, .slice (some ⟨p, 0, none⟩) 1 1]).run prog w2 = .ok (.int .i64 1) w3 := fun ty => by
  have hm : Nat.min 1 n = 1 := Nat.min_eq_left h1; have h := qcn (P := prog) w2 87 87 ty 330 i0 q 0 n n ⟨p, 0, none⟩ 1 1 x.enc underlying87 hi0 (by rw [hm, hz1]; rfl) (fun j v hv => by rw [Addr.add_mid]; exact qb5 hx2 j v hv) (fun j hj => (qai R2 hcur j (by rw [qas.enc_len] at hj; omega)).1) (fun j hj => (qai R2 hcur j (by rw [qas.enc_len] at hj; omega)).2) x.enc_one; rw [hm] at h; rw [hw3]; exact h
 have hb3 : Below w.heap.size w w3 := by rw [hw3]; exact qae (by omega) _ _ _ b2
 have HB3 := hid hb3; rw [← hq]; have HQW := hid (show w.heap.size ≤ q by omega); clear hw2 R2 hcur b2 hx2 HQ0 hw3 hb3 MK hq hx TM hc1 hc2; go_wp2_with fail; go_loopw [8] (fun v8 wr => ∃ k : Nat, 1 ≤ k ∧ k ≤ n ∧ v8 = .int .i64 (k : Int) ∧ qih wr q n x k ∧ Below w.heap.size w wr) (fun v8 _ => n - (intOf v8).toNat)
 case atStart => exact ⟨1, Nat.le_refl _, h1, rfl, HQ1.out, HB3.out⟩
 case round =>
  obtain ⟨k, hk1, hkn, rfl, hrep, hbr⟩ := hrel; have HREP := hid hrep; have HBR := hid hbr; clear hrep hbr HC1; by_cases hlt : k < n
  · have i1 : (0 : Int) ≤ (k : Int) := by omega
    have i2 : (k : Int) ≤ (n : Int) := by omega
    have i3 : (k : Int) < (n : Int) := by omega
    go_wp2_with fail; obtain ⟨m, hm⟩ : ∃ m, m = Nat.min k (n - k) := ⟨_, rfl⟩; have hmk : m ≤ k := by rw [hm]; exact Nat.min_le_left _ _
    have hmn : m ≤ n - k := by rw [hm]; exact Nat.min_le_right _ _
    have hm1 : 1 ≤ m := by rw [hm]; exact Nat.le_min.2 ⟨hk1, by omega⟩
    obtain ⟨w5, hw5⟩ : ∃ w5, w5 = wr.drew.setCells q (k * 8) ((List.replicate m x).flatMap qas.enc) := ⟨_, rfl⟩; have HR5 : Hid (qih w5 q n x (k + m)) := hid (by rw [hw5]; exact qih.copy (w := wr.drew) HREP.out (by omega)); have HB5 : Hid (Below w.heap.size w w5) := hid (by rw [hw5]; exact qae HQW.out _ _ _ HBR.out.drew); have HCk : ∀ ty, (Builtin.copy_ #[87, 87] ty #[.slice (some ⟨q, k * 8, none⟩) (n - k) (n - k), .slice (some ⟨q, 0, none⟩) k n]).run prog wr.drew = .ok (.int .i64 (m : Int)) w5 := fun ty => by
     obtain ⟨⟨cu, hc1, hc2⟩, hc3⟩ := HREP.out; have h := qcn (P := prog) wr.drew 87 87 ty 330 i0 q (k * 8) (n - k) (n - k) ⟨q, 0, none⟩ k n ((List.replicate m x).flatMap qas.enc) underlying87 hi0 (by rw [qfq, hz1, hm]) (fun j v hv => by
      rw [Addr.add_mid]
      refine hc3 j v ?_
      rw [show k = m + (k - m) by omega, ← List.replicate_append_replicate, List.flatMap_append, List.getElem?_append_left (List.getElem?_eq_some_iff.1 hv).1]
      exact hv) (fun j hj => by rw [qfq] at hj; have := (qai hc1 hc2 (k * 8 + j) (by omega)).1; rw [Nat.zero_add] at this; exact this) (fun j hj => by rw [qfq] at hj; have := (qai hc1 hc2 (k * 8 + j) (by omega)).2; rw [Nat.zero_add] at this; exact this) (fun v hv => by
      obtain ⟨y, hy, hvy⟩ := List.mem_flatMap.1 hv
      rw [List.eq_of_mem_replicate hy] at hvy
      exact x.enc_one v hvy)
     rw [← hm] at h; rw [hw5]; exact h
    have i4 : IntKind.i64.wrap ((k : Int) + (m : Int)) = ((k + m : Nat) : Int) := by rw [Go.IntWalk.i64_in _ (by omega)]; omega
    clear hw5; go_region; have HM := hid hm; go_wp2_with fail; go_roundw
    case measure => rw [← HM.out]; simp [intOf]; omega
    case rel => exact ⟨k + m, by omega, by omega, by rw [← HM.out]; simp, HR5.out, HB5.out⟩
  · have i3 : ¬ (k : Int) < (n : Int) := by omega
    obtain rfl : k = n := by omega
    go_wp2_with fail; go_ret; exact ⟨_, rfl, HREP.out.own HQW.out hn, HBR.out⟩
end
section
open Go.RowKit
def qpe (fn : Nat) (isB : qa7 → qas → Bool) : Prop := (∀ args w, (callFunc fn args).run prog w = .ok (.enter fn args) w) ∧ ∀ (c : qa7) (p : qas) (W : World), Calls prog fn #[.agg #[.int .i64 c.kind, .string c.key, .string c.val, .string c.tx, .slice c.gA c.gn c.gc], .agg #[.bool p.had, .string p.old.key, .int .u64 (p.old.id : Int), .int .u64 (p.old.ver : Int), .int .i64 p.old.line, .int .i64 p.old.cls, .int .i64 p.line, .int .i64 p.cls]] W fun e w' => e = .returned (.bool (isB c p)) ∧ Below W.heap.size W w'
theorem qAx : qpe 260 fun _ _ => true := by
 refine ⟨enters_of func260 (by kernel_rfl) rfl, ?_⟩; intro c p W; go_enter func260, ntmps260; go_wp2_with fail; go_ret; exact ⟨rfl, (by with_reducible repeat (first | exact Below.refl _ _ | assumption | refine Below.drew ?_ | refine qa1 ?_ _ | refine Below.alloc ?_ (by first | omega | simp <;> omega) _ | refine Below.setCell ?_ (by first | omega | simp <;> omega) _))⟩
theorem qAw : qpe 262 fun _ _ => true := by
 refine ⟨enters_of func262 (by kernel_rfl) rfl, ?_⟩; intro c p W; go_enter func262, ntmps262; go_wp2_with fail; go_ret; exact ⟨rfl, (by with_reducible repeat (first | exact Below.refl _ _ | assumption | refine Below.drew ?_ | refine qa1 ?_ _ | refine Below.alloc ?_ (by first | omega | simp <;> omega) _ | refine Below.setCell ?_ (by first | omega | simp <;> omega) _))⟩
theorem qAv : qpe 261 fun c p => (c.kind == 3) && !p.had := by
 refine ⟨enters_of func261 (by kernel_rfl) rfl, ?_⟩; intro c p W; go_enter func261, ntmps261; rcases Bool.eq_false_or_eq_true (c.kind == 3) with h3 | h3
 · rw [h3]
   go_wp2_with fail; go_ret; exact ⟨by simp, (by with_reducible repeat (first | exact Below.refl _ _ | assumption | refine Below.drew ?_ | refine qa1 ?_ _ | refine Below.alloc ?_ (by first | omega | simp <;> omega) _ | refine Below.setCell ?_ (by first | omega | simp <;> omega) _))⟩
 · rw [h3]
   go_wp2_with fail; go_ret; exact ⟨by simp, (by with_reducible repeat (first | exact Below.refl _ _ | assumption | refine Below.drew ?_ | refine qa1 ?_ _ | refine Below.alloc ?_ (by first | omega | simp <;> omega) _ | refine Below.setCell ?_ (by first | omega | simp <;> omega) _))⟩
section
variable {g : Own8} {w w' : World} {lo a b t : Nat} {P : qag} {M : qa4} {ty : TypeId} {f : qa5} {d : FrD}
def qBs (M : qa4) (f : qa5) (d : FrD) (M' : qa4) (f' : qa5) (d' : FrD) : Prop := f' = f ∧ ∃ S' ps', S'.length = M.S.length ∧ M' = { M with S := S' } ∧ ps'.length = d.ps.length ∧ d' = { d with ps := ps' }
theorem qi6.len {S S' : List qan} (h : qi6 S S') : S'.length = S.length := by
 rcases h with rfl | ⟨i, k, hi, rfl, _⟩
 · rfl
 · rw [List.length_set]
theorem qg1 (h : WSt g w lo a P M b t ty f d) (hgp : d.ps.length ≤ d.gr.length) (hb3 : d.ps.length ≤ 1000) {fn : Nat} {isB : qa7 → qas → Bool} (HI : qpe fn isB) :
 Calls prog 259 #[.pointer (some ⟨b, 0, none⟩), .func (.func fn) #[] #[]] w (qal lo a P b t ty (qBs M f d) g w) := by
 have H := hid h; have HII := hid HI; have c23 := h.box.c 23 rfl; rw [h.prt.2.1] at c23; have hl := h.box.lt; clear h HI; go_enter func259, ntmps259; go_upto_region 1 with fail; go_loopw [12] (fun v12 wr => ∃ (k : Nat) (g' : Own8) (S' : List qan) (ps' : List qas), k ≤ d.ps.length ∧ v12 = .int .i64 k ∧ S'.length = M.S.length ∧ ps'.length = d.ps.length ∧ WSt g' wr lo a P { M with S := S' } b t ty f { d with ps := ps' } ∧ ExtB lo b g g' w wr) (fun v12 _ => d.ps.length - (intOf v12).toNat)
 case atStart => exact ⟨0, g, M.S, d.ps, Nat.zero_le _, rfl, rfl, rfl, H.out, ExtB.refl _ _ _ _⟩
 case round =>
  obtain ⟨k, g1, S1, ps1, hkl, rfl, hS, hps, h1, e1⟩ := hrel; have HS := hid hS; have HPS := hid hps; have H1 := hid h1; have HE1 := hid e1; by_cases hlt : k < d.ps.length
  · have hk1 : k < ps1.length := by omega
    have hkg : k < d.gr.length := by omega
    have i1 : (0 : Int) ≤ (k : Int) := by omega
    have i2 : (k : Int) < (d.ps.length : Int) := by omega
    have i3 : (k : Int) < (ps1.length : Int) := by omega
    have i4 : (k : Int) < (d.gr.length : Int) := by omega
    have c23 := h1.box.c 23 rfl; have c6 := h1.box.c 6 rfl; rw [h1.prt.2.1] at c23; rw [h1.grp.1.2.1] at c6; have hl := h1.box.lt; obtain ⟨x, off, hA, hx, k0, k1, k2, k3, k4⟩ := h1.grp.1.1.call0 hkg; obtain ⟨pb, po, hpA⟩ : ∃ pb po, f.pA = some ⟨pb, po, none⟩ := by
     rcases h1.prt.1.arr qas.enc_len with h0 | ⟨pb, po, h1, _⟩
     · simp at h0; rw [h0] at hk1; simp at hk1
     · exact ⟨pb, po, h1⟩
    obtain ⟨hpl, hplo, hpb, hpc, hpf⟩ := h1.part hpA hk1; have p0 := hpc 0 _ rfl; have p1 := hpc 1 _ rfl; have p2 := hpc 2 _ rfl; have p3 := hpc 3 _ rfl; have p4 := hpc 4 _ rfl; have p5 := hpc 5 _ rfl; have p6 := hpc 6 _ rfl; have p7 := hpc 7 _ rfl; rw [hA] at c6; rw [hpA] at c23; obtain ⟨pt, hpt⟩ : ∃ pt, pt = ps1[k] := ⟨_, rfl⟩; obtain ⟨c, hc⟩ : ∃ c, c = d.gr[k] := ⟨_, rfl⟩; have q0 : wr.cell? ⟨x, off + k * 5, none⟩ = some (.int .i64 c.kind) := by rw [hc]; exact k0
    have q1 : wr.cell? ⟨x, off + k * 5 + 1, none⟩ = some (.string c.key) := by rw [hc]; exact k1
    have q2 : wr.cell? ⟨x, off + k * 5 + 2, none⟩ = some (.string c.val) := by rw [hc]; exact k2
    have q3 : wr.cell? ⟨x, off + k * 5 + 3, none⟩ = some (.string c.tx) := by rw [hc]; exact k3
    have q4 : wr.cell? ⟨x, off + k * 5 + 4, none⟩ = some (.slice c.gA c.gn c.gc) := by rw [hc]; exact k4
    have r0 : wr.cell? ⟨pb, po + k * 8, none⟩ = some (.bool pt.had) := by rw [hpt]; exact p0
    have r1 : wr.cell? ⟨pb, po + k * 8 + 1, none⟩ = some (.string pt.old.key) := by rw [hpt]; exact p1
    have r2 : wr.cell? ⟨pb, po + k * 8 + 2, none⟩ = some (.int .u64 (pt.old.id : Int)) := by rw [hpt]; exact p2
    have r3 : wr.cell? ⟨pb, po + k * 8 + 3, none⟩ = some (.int .u64 (pt.old.ver : Int)) := by rw [hpt]; exact p3
    have r4 : wr.cell? ⟨pb, po + k * 8 + 4, none⟩ = some (.int .i64 pt.old.line) := by rw [hpt]; exact p4
    have r5 : wr.cell? ⟨pb, po + k * 8 + 5, none⟩ = some (.int .i64 pt.old.cls) := by rw [hpt]; exact p5
    have r6 : wr.cell? ⟨pb, po + k * 8 + 6, none⟩ = some (.int .i64 pt.line) := by rw [hpt]; exact p6
    have r7 : wr.cell? ⟨pb, po + k * 8 + 7, none⟩ = some (.int .i64 pt.cls) := by rw [hpt]; exact p7
    have e6 : wr.cell? ⟨b, 6, none⟩ = some (.slice (some ⟨x, off, none⟩) d.gr.length f.call.gc) := c6; have e23 : wr.cell? ⟨b, 23, none⟩ = some (.slice (some ⟨pb, po, none⟩) ps1.length f.pc) := c23; have HPA := hid hpA; have HK1 := hid hk1; have HPT := hid hpt; clear k0 k1 k2 k3 k4 p0 p1 p2 p3 p4 p5 p6 p7 c6 c23 hA hpA h1 e1 hpt hc hpc hpf hS hkg; generalize d.gr.length = gn at e6 i4; go_upto_region 4 with fail; go_cut [42] (fun v42 wx => ∃ r : Bool, v42 = .bool r ∧ Below wr.heap.size wr wx)
    case first =>
     by_cases hln : 0 ≤ pt.line
     · have hge : decide (0 ≤ pt.line) = true := decide_eq_true hln
       clear hln; go_still_tail 19, (by kernel_rfl); have eg := HII.out.1; go_wp2_with fail; refine (HII.out.2 c pt _).mono ?_; rintro e w2 ⟨rfl, hb2⟩; have ST2 : Below wr.heap.size wr w2 := (Below.refl _ _).drew.trans (hb2.mono (Nat.le_refl _)); clear hb2; go_wp2_with fail; go_meet; exact ⟨isB c pt, rfl, ST2⟩
     · have hge : decide (0 ≤ pt.line) = false := decide_eq_false hln
       clear hln; go_quiet (fail); go_wp2_with fail; go_meet; exact ⟨false, rfl, (by with_reducible repeat (first | exact Below.refl _ _ | assumption | refine Below.drew ?_ | refine qa1 ?_ _ | refine Below.alloc ?_ (by first | omega | simp <;> omega) _ | refine Below.setCell ?_ (by first | omega | simp <;> omega) _))⟩
    obtain ⟨r, rfl, hb2⟩ := hcut; obtain ⟨w2, hw2⟩ : ∃ x, x = wc := ⟨_, rfl⟩; subst hw2; have h2 := H1.out.below hb2; have H2 := hid h2; have HE2 := hid (HE1.out.trans (.below hb2)); clear hb2 q0 q1 q2 q3 q4 r0 r1 r2 r3 r4 r5 r6 r7 e6 e23 hx hpl; cases r with
    | false =>
     clear h2; go_wp2_with fail; exact ⟨⟨k + 1, g1, S1, ps1, by omega, by go_num, HS.out, HPS.out, H2.out, HE2.out⟩, by simp [intOf]; omega⟩
    | true =>
     obtain ⟨hpl, hplo, hpb, hpc, hpf⟩ := h2.part HPA.out HK1.out; have r6 : w2.cell? ⟨pb, po + k * 8 + 6, none⟩ = some (.int .i64 pt.line) := by rw [HPT.out]; exact hpc 6 _ rfl
     have c0 := h2.c0; have hl := h2.box.lt; have TP := hid (qi1 h2.drew.ar); clear h2 hpc hpf; go_upto_region 5 with fail; go_still_tail 9, (by kernel_rfl); still_call TP.out; repeat still_step
     refine wpStill_nil ?_; change wpList _ _ _ _ _ (World.drew w2); have H3 := hid H2.out.drew; have HE3 : Hid (ExtB lo b g g1 w w2.drew) := hid (HE2.out.trans (ExtB.below (Below.refl _ _).drew)); generalize hw3 : World.drew w2 = w3 at *; clear hw3 c0 r6 hl hpl TP H2 HE2; go_wp2_with fail; refine (qmf H3.out.ar pt.line).mono ?_; rintro e w4 ⟨code, S', rfl, hs, g4, A4, E4⟩; have HS4 := hid (hs.len.trans HS.out); have h4 := H3.out.ext A4 E4; have H4 := hid h4; have HE4 := hid (HE3.out.trans (.of_ext E4)); obtain ⟨hpl, hplo, hpb, hpc, hpf⟩ := h4.part HPA.out HK1.out; have r6 : w4.cell? ⟨pb, po + k * 8 + 6, none⟩ = some (.int .i64 pt.line) := by rw [HPT.out]; exact hpc 6 _ rfl
     have f6 := hpf (po + k * 8 + 6); have HSP := hid (h4.setPart HPA.out HK1.out (m := 6) (by omega) (.int .i64 (-1)) { pt with line := -1 } (by rw [HPT.out]; rfl)); clear h4 A4 E4 hs hpc hpf H3 HE3; go_wp2_with fail; exact ⟨⟨k + 1, g4, S', ps1.set k { pt with line := -1 }, by omega, by go_num, HS4.out, by rw [List.length_set]; exact HPS.out, HSP.out.1, HE4.out.trans HSP.out.2⟩, by simp [intOf]; omega⟩
  · obtain rfl : k = d.ps.length := by omega
    clear hkl h1 e1; go_wp2_with fail; exact bodyPost_ret (v := .tuple #[]) (by simp [results, results259]) rfl ⟨rfl, _, _, _, ⟨rfl, S1, ps1, HS.out, rfl, HPS.out, rfl⟩, g1, H1.out, HE1.out⟩
end
end
end Go.Proofs.YtecikkjbnkhhkaaGreat
