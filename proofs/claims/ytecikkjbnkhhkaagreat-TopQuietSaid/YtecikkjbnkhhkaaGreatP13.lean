/- A part of the walk. -/
import Derived.Test.YtecikkjbnkhhkaaGreatP08
namespace Go.Proofs.YtecikkjbnkhhkaaGreat
open _root_.Go.Proofs.Tryz
set_option maxHeartbeats 2000000
set_option maxRecDepth 100000
section
open Go.RowKit
theorem Own.setOne {α : Type} {enc : α → List Value} {e : TypeId} {k : Nat} (hk : ∀ x, (enc x).length = k) {w : World} {lo b off c : Nat} {l : List α} (h : Own enc e k w lo (some ⟨b, off, none⟩) c l) {i : Nat} (hi : i < l.length) (x : α) : Own enc e k (w.setCells b (off + i * k) (enc x)) lo (some ⟨b, off, none⟩) c (l.set i x) := by
 have := h.setPart hk hi x 0 (enc x) (by rw [hk]; omega) (fun j hj => by rw [hk] at hj; rw [List.getElem?_eq_none (by rw [hk]; omega), List.getElem?_eq_none (by rw [hk]; omega)]) (fun j _ => by rw [Nat.zero_add]); simpa using this
theorem qjw (w : World) (lo p : Nat) (A : Option Addr) (c : Nat) (L : List qa3) (at' n : Nat) (x : qa3) (h : qbo w lo p A c L at' n) (hn : n < L.length) (hlow : lo ≤ w.heap.size) (hL : L.length ≤ 200001) : Calls prog 329 #[.pointer (some ⟨p, 0, none⟩), x.val] w (qff lo p A c (qd4 L at' n ++ [x]) w) := by
 have hp := qa0 h.box; have hat : at' < L.length := by rcases h.fit.2 with h0 | h0 <;> omega
 have HXV := hid (show x.val = .agg #[.string x.key, .int .u64 (x.id : Int), .int .u64 (x.ver : Int), .int .i64 x.line, .int .i64 x.cls] from rfl); have hm : (at' + n) % L.length < L.length := Nat.mod_lt _ (by omega); have e1 : ((n : Int) == (L.length : Int)) = false := by rw [beq_eq_false_iff_ne]; omega
 have e3 : Int.tmod ((at' : Int) + (n : Int)) (L.length : Int) = (((at' + n) % L.length : Nat) : Int) := by rw [show (at' : Int) + (n : Int) = ((at' + n : Nat) : Int) by omega, Int.ofNat_tmod]
 have hmi : (((at' + n) % L.length : Nat) : Int) < (L.length : Int) := by omega
 rw [HXV.out]; obtain ⟨b, off, rfl, hB, -⟩ := (h.rows.arr qa3.enc_len).link hat; go_enter func329, ntmps329; go_upto_region 1 with fail; generalize hw1 : World.alloc w _ = w1; have R1 : w1.heap[w.heap.size]? = some (.cells x.enc.toArray 85 (0, 0)) := by rw [← hw1]; exact (qa2 _ _ _).trans (if_pos rfl)
 have b1 : Below w.heap.size w w1 := by rw [← hw1]; exact (Below.refl _ _).alloc (Nat.le_refl _) _
 have HB1 := hid b1; have H1 := hid (h.keep (b1.block p hp) (fun b _ hlt => b1.block b hlt)); have hp1 := qa0 H1.out.box; have p0 := cell_of_row w1 p 0 _ _ _ H1.out.box; have p1 := cell_of_row w1 p 1 _ _ _ H1.out.box; have p2 := cell_of_row w1 p 2 _ _ _ H1.out.box; have r0 := cell_of_row w1 _ 0 _ _ _ R1; have r1 := cell_of_row w1 _ 1 _ _ _ R1; have r2 := cell_of_row w1 _ 2 _ _ _ R1; have r3 := cell_of_row w1 _ 3 _ _ _ R1; have r4 := cell_of_row w1 _ 4 _ _ _ R1; simp only [qa3.enc, List.getElem?_toArray, List.getElem?_cons_zero, List.getElem?_cons_succ] at r0 r1 r2 r3 r4; have hl1 := qa0 R1; have HN := hid h; clear hw1 R1 b1 h; go_quiet (fail); go_upto_region 6 with fail; generalize hw2 : w1.drewN nq = w2; have hh2 : w2.heap = w1.heap := by rw [← hw2]; rfl
 have H2 := hid (H1.out.keep (w' := w2) (by rw [hh2]) (fun b _ _ => by rw [hh2])); have HB2 : Hid (Below w.heap.size w w2) := hid (by rw [← hw2]; exact qa1 HB1.out _); have hc2 : ∀ a, w2.cell? a = w1.cell? a := fun a => by rw [← hw2]; rfl
 rw [← hc2] at p0 p1 p2 r0 r1 r2 r3 r4; rw [show w1.heap.size = w2.heap.size by rw [hh2]] at hp1 hl1; clear hw2 hh2 hc2 HB1 H1; have hL0 : ¬ (L.length : Int) = 0 := by omega
 have hL2 : ¬ L.length = 0 := by omega
 have hL3 : ¬ L = [] := fun h0 => by rw [h0] at hL2; exact hL2 rfl
 have hL1 : ((L.length : Int) == 0) = false := by rw [beq_eq_false_iff_ne]; exact hL0
 have i1 : IntKind.i64.wrap ((at' : Int) + (n : Int)) = (at' : Int) + (n : Int) := Go.IntWalk.i64_in _ (by omega); have i2 : IntKind.i64.wrap (((at' + n) % L.length : Nat) : Int) = (((at' + n) % L.length : Nat) : Int) := Go.IntWalk.i64_in _ (by omega); have hm0 : (0 : Int) ≤ (((at' + n) % L.length : Nat) : Int) := by omega
 have RWS := hid H2.out.rows; have hfz := RWS.out.frozen rfl (by have := RWS.out.len; omega); obtain ⟨k, hk⟩ : ∃ k, k = (at' + n) % L.length := ⟨_, rfl⟩; rw [← hk] at e3 hmi i2 hm0 hm; have hcells := RWS.out.arr qa3.enc_len; obtain ⟨b', off', hA', hB', k0, k1, k2, k3, k4⟩ := hcells.link hm; cases hA'
 clear hcells; have z0 := hfz (off + k * 5); have z1 := hfz (off + k * 5 + 1); have z2 := hfz (off + k * 5 + 2); have z3 := hfz (off + k * 5 + 3); have z4 := hfz (off + k * 5 + 4); have HK := hid hk; clear hfz hk; go_still_tail 20, (by kernel_rfl); change wpList _ _ _ _ _ (World.drew w2); obtain ⟨w3, hw3⟩ : ∃ w3, w3 = w2.drew := ⟨_, rfl⟩; rw [← hw3]; have hh3 : w3.heap = w2.heap := by rw [hw3]; rfl
 have HB3 : Hid (Below w.heap.size w w3) := hid (by rw [hw3]; exact HB2.out.drew); have H3 := hid (H2.out.keep (w' := w3) (by rw [hh3]) (fun b _ _ => by rw [hh3])); have hc3 : ∀ a, w3.cell? a = w2.cell? a := fun a => by rw [hw3]; rfl
 have hf3 : ∀ a, w3.frozen? a = w2.frozen? a := fun a => by rw [hw3]; rfl
 rw [← hc3] at p0 p1 p2 k0 k1 k2 k3 k4; rw [← hf3] at z0 z1 z2 z3 z4; rw [show w2.heap.size = w3.heap.size by rw [hh3]] at hp1 hB'; have hc0 : ¬ c = 0 := by have := RWS.out.len; omega
 have hpb : ¬ p = b := fun h0 => H3.out.rows.notBox H3.out.box (by decide) (by rw [qa8, if_neg hc0, h0]; rfl)
 have hbp : ¬ b = p := fun h0 => hpb h0.symm
 have fp2 := frozen_of_row w3 p 2 _ _ H3.out.box; have in1 : IntKind.i64.wrap ((n : Int) + 1) = (n : Int) + 1 := Go.IntWalk.i64_in _ (by omega); clear hw3 hh3 hc3 hf3 HB2 H2 r0 r1 r2 r3 r4 hl1 e3 i1 i2 e1 hL0 hL1 hL2 hL3 p0 p1; have HW5 : Hid (Own qa3.enc 85 5 (w3.setCells b (off + k * 5) x.enc) lo (some ⟨b, off, none⟩) c (L.set k x)) := hid (Own.setOne qa3.enc_len H3.out.rows hm x); have HX5 : Hid ((w3.setCells b (off + k * 5) x.enc).heap[p]? = _) := hid ((qaa b x.enc (off + k * 5) w3 p hpb).trans H3.out.box); have HO5 : Hid (∀ j, j ≠ b → (w3.setCells b (off + k * 5) x.enc).heap[j]? = w3.heap[j]?) := hid fun j hj => qaa b x.enc (off + k * 5) w3 j hj
 have HS5 := hid (qam b x.enc (off + k * 5) w3); go_wp2_with fail; have hlob := H3.out.lo; refine bodyPost_ret (v := .tuple #[]) (by simp [results, results329]) rfl ⟨rfl, ⟨⟨some ⟨b, off, none⟩, c, ⟨L.set k x, at', n + 1, ⟨?_, ?_, hlob, ?_, ?_⟩, ?_⟩, .inl ⟨rfl, rfl⟩⟩, ?_, fun j hj hjp hjr => ?_, fun K hK _ => Ring.of_box (heap_setCell_same _ p 2 _ _ (.int .i64 ((n : Int) + 1)) HX5.out) ((hK.same (HB3.out.block p hp)).len H3.out.box)⟩⟩
 · rw [List.length_set]
   exact heap_setCell_same _ p 2 _ _ (.int .i64 ((n : Int) + 1)) HX5.out
 · exact HW5.out.keep fun b' off' hA _ _ => by
    cases hA
    exact Below.heap_setCell _ _ _ _ hbp
 · rw [List.length_set]
   exact ⟨by omega, .inr hat⟩
 · intro h0
   have := congrArg List.length h0; rw [List.length_set] at this; simp at this; rw [this] at hn; simp at hn
 · rw [HK.out]
   exact (qq2 hn hat x).symm
 · have hlb : lo ≤ b := by
    rcases H3.out.rows.lt with h0 | ⟨b', off', hA, hB, _⟩
    · exact absurd h0 hc0
    · cases hA; exact hB
   exact ((qae hlb x.enc (off + k * 5) w3 (HB3.out.mono hlow)).setCell (p := ⟨p, 2, none⟩) hlob _)
 · have hjb : j ≠ b := fun h0 => hjr (by rw [qa8, if_neg hc0, h0]; rfl)
   exact (Below.heap_setCell _ _ _ _ hjp).trans ((HO5.out j hjb).trans (HB3.out.block j hj))
end
section
open Go.RowKit Go.MapKept
open Go.ChangeMaps (setBlock)
def qld (L : List qa3) (I : List Nat) : List qa3 := I.map fun i => L.getD i qak
def qkr (w : World) (r it : Nat) (L : List qa3) (I : List Nat) : Prop := ∃ es clock since seen c0, w.heap[r]? = some (.map es clock) ∧ MpL es clock L ∧ w.heap[it]? = some (.mapIter (some r) since seen c0) ∧ (∀ x ∈ es.toList, x.born < since) ∧ since ≤ c0 ∧ since ≤ clock ∧
 I.Nodup ∧ (∀ i ∈ I, i < L.length) ∧ ∀ i (h : i < es.size), seen.contains es[i].born = true ↔ i ∈ I
theorem qvq {L : List qa3} {I : List Nat} (hn : I.Nodup) (hl : ∀ i ∈ I, i < L.length) (ha : ∀ i, i < L.length → i ∈ I) : (qld L I).Perm L := by
 have hp : I.Perm (List.range L.length) := (List.perm_ext_iff_of_nodup hn List.nodup_range).2 fun i => ⟨fun h => List.mem_range.2 (hl i h), fun h => ha i (List.mem_range.1 h)⟩
 have h2 : qld L (List.range L.length) = L := by
  apply List.ext_getElem?; intro i; unfold qld; rw [List.getElem?_map]; by_cases hi : i < L.length
  · rw [List.getElem?_range hi, List.getElem?_eq_getElem hi]
    simp [List.getD_eq_getElem?_getD, List.getElem?_eq_getElem hi]
  · rw [List.getElem?_eq_none (by simp; omega), List.getElem?_eq_none (by omega)]
    rfl
 exact (hp.map _).trans (by rw [show (List.range L.length).map (fun i => L.getD i qak) = L from h2])
section
variable {ops : Array Oper} {rest : List Oper} {o : Oper} {a : Act} {w : World} {Q : Exit → Act → World → Prop} {r it : Nat} {L : List qa3} {I : List Nat}
theorem qkr.same {w' : World} (h : qkr w r it L I) (h1 : w'.heap[r]? = w.heap[r]?) (h2 : w'.heap[it]? = w.heap[it]?) : qkr w' r it L I := by
 obtain ⟨es, clock, since, seen, c0, q1, q2, q3, q4⟩ := h; exact ⟨es, clock, since, seen, c0, h1.trans q1, q2, h2.trans q3, q4⟩
theorem qkr.lt (h : qkr w r it L I) : r < w.heap.size ∧ it < w.heap.size := by
 obtain ⟨es, clock, since, seen, c0, q1, q2, q3, q4⟩ := h; exact ⟨(Array.getElem?_eq_some_iff.1 q1).1, (Array.getElem?_eq_some_iff.1 q3).1⟩
theorem qi8 (hg : o.guard = none) (m : Operand) (hop : o.op = Op.range 195 m) (hm : a.eval m = .map (some r)) (h : MapL w r L)
 (hK : ∀ w', qkr w' r w.heap.size L [] → w.grownBy w' none → w'.heap.size = w.heap.size + 1 → wpList prog ops Q rest (a.put o.dst (.pointer (some ⟨w.heap.size, 0, none⟩))) w') : wpList prog ops Q (o :: rest) a w := by
 refine wpList_plain hg fun K' hK' => ?_
 have hlt := h.lt; obtain ⟨es, clock, hb, hc⟩ := h; have ht : prog.underlying 195 = some (.map 9 85) := underlying195; unfold Oper.wp; simp [execOp, hop, hm, run_range_map w 195 9 85 r es clock ht hb, Result.andThen]; refine hK' _ _ (hK _ ⟨es, clock, clock, #[], clock, ((MapKept.heap_alloc w _).2 r hlt).trans hb, hc, (MapKept.heap_alloc w _).1, hc.st.1, Nat.le_refl _, Nat.le_refl _, List.nodup_nil, by simp, fun i h => by simp⟩ (World.grownBy_alloc w _ none) (by simp))
theorem qji (hg : o.guard = none) (i : Operand) (hop : o.op = Op.next i false) (hi : a.eval i = .pointer (some ⟨it, 0, none⟩)) (h : qkr w r it L I)
 (hDone : (qld L I).Perm L → wpList prog ops Q rest (a.put o.dst (.tuple #[.bool false])) w)
 (hMore : ∀ (j : Nat) (x : qa3) (w' : World), x = L.getD j qak → qkr w' r it L (I ++ [j]) → w'.rangeLeft r it < w.rangeLeft r it → w.grownBy w' (some it) → w'.heap.size = w.heap.size →
  (Instr.entry (.pointer (some ⟨it, 0, none⟩))).run prog w' = .ok (.tuple #[.string x.key, x.val]) w' → wpList prog ops Q rest (a.put o.dst (.tuple #[.bool true, .string x.key, x.val])) w') :
 wpList prog ops Q (o :: rest) a w := by
 refine wpList_plain hg fun K' hK' => ?_
 obtain ⟨es, clock, since, seen, c0, hb, hc, hr, hold, hsc, hsk, hn, hl, hz⟩ := h; have hne : it ≠ r := fun e => by rw [e, hb] at hr; cases hr
 unfold Oper.wp; rcases run_next_at (P := prog) w o.type it r since c0 seen es clock hr hb hold hsc with ⟨h0, hrun⟩ | ⟨e, he, w1, hal, hrun⟩
 · simp [execOp, hop, hi, hrun, Result.andThen]
   refine hK' _ _ (hDone (qvq hn hl fun i hi => ?_)); have his : i < es.size := by rw [hc.len]; exact hi
   exact (hz i his).1 (all_seen es seen h0 _ (by simp))
 · obtain ⟨hem, hes⟩ := mem_left he
   obtain ⟨j, hj, hje⟩ := List.getElem_of_mem hem; have hjs : j < es.size := by simpa using hj
   have hjl : j < L.length := by rw [← hc.len]; exact hjs
   have hje' : es[j] = e := by simpa using hje
   obtain ⟨e', h1, hk, hv⟩ := hc.row j hjl; have hee : e' = e := by rw [Array.getElem?_eq_getElem hjs, hje'] at h1; exact (Option.some.inj h1).symm
   subst hee; have hjI : j ∉ I := fun hm => by
    have := (hz j hjs).2 hm; rw [hje', hes] at this; cases this
   have hr1 : w1.heap[it]? = some (.mapIter (some r) since seen c0) := by rcases hal with rfl | rfl <;> exact hr
   have hb1 : w1.heap[r]? = some (.map es clock) := by rcases hal with rfl | rfl <;> exact hb
   have hset := MapKept.heap_set (o' := .mapIter (some r) since (seen.push e'.born) clock) hr1; have hb' : (setBlock w1 it (.mapIter (some r) since (seen.push e'.born) clock)).heap[r]? = some (.map es clock) := (hset.2 r (fun e1 => hne e1.symm)).trans hb1; have hsh := left_shrinks es seen e' he; have hs1 : (setBlock w1 it (.mapIter (some r) since (seen.push e'.born) clock)).heap[it]? = some (.mapIter (some r) since (seen.push e'.born) clock) := hset.1; have hx : L.getD j qak = L[j] := by simp [List.getD_eq_getElem?_getD, List.getElem?_eq_getElem hjl]
   rw [hk, hv] at hrun; simp [execOp, hop, hi, hrun, Result.andThen]; rw [← hx]; refine hK' _ _ (hMore j (L.getD j qak) _ rfl ⟨es, clock, since, seen.push e'.born, clock, hb', hc, hset.1, hold, hsk, hsk, ?_, ?_, fun i his => ?_⟩ ?_ ?_ ?_ ?_)
   · exact List.nodup_append.2 ⟨hn, by simp, fun a ha b hb => by simp at hb; subst hb; exact fun e => hjI (e ▸ ha)⟩
   · intro i hi
     rcases List.mem_append.1 hi with h | h
     · exact hl i h
     · simp at h; subst h; exact hjl
   · rw [contains_push, List.mem_append]
     by_cases hij : i = j
     · subst hij
       simp [hje']
     · have hbn : (es[i].born == e'.born) = false := by
        rw [beq_eq_false_iff_ne]; intro hb2; have := born_inj hc.st.2.1 (x := es[i]) (e := e') (by simp) hem hb2; have h4 := List.pairwise_iff_getElem.1 hc.st.2.1; rcases Nat.lt_or_gt_of_ne hij with hlt | hlt
        · exact h4 i j (by simpa using his) (by simpa using hjs) hlt (by simp; rw [hb2, hje'])
        · exact h4 j i (by simpa using hjs) (by simpa using his) hlt (by simp; rw [hb2, hje'])
       rw [hbn, Bool.or_false, hz i his]; simp [hij]
   · simp only [World.rangeLeft, hb, hr, hb', hs1]
     exact hsh
   · rcases hal with rfl | rfl <;> exact ⟨rfl, rfl, rfl, by simp [setBlock], fun i _ hi => hset.2 i (fun e1 => hi (by rw [e1]))⟩
   · rcases hal with rfl | rfl <;> simp [setBlock]
   · have := run_entry_at (P := prog) _ it r since seen es clock e' hset.1 hb' hem hc.st.2.1
     rw [hk, hv, ← hx] at this; exact this
end
end
end Go.Proofs.YtecikkjbnkhhkaaGreat
