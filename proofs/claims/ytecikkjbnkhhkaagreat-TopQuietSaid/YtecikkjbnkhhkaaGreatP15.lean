/- A part of the walk. -/
import Derived.Test.YtecikkjbnkhhkaaGreatP10
import Derived.Test.YtecikkjbnkhhkaaGreatP09
import Derived.Test.YtecikkjbnkhhkaaGreatP14
namespace Go.Proofs.YtecikkjbnkhhkaaGreat
open _root_.Go.Proofs.Tryz
set_option maxHeartbeats 4000000
set_option maxRecDepth 100000
section
open Go.RowKit
theorem qgv (x : qa3) (key : ByteArray) (w : World) : Calls prog 349 #[.agg #[.string x.key, .int .u64 x.id, .int .u64 x.ver, .int .i64 x.line, .int .i64 x.cls], .string key] w fun e w' => e = .returned (.int .i64 (cmpB x.key key)) ∧ Below w.heap.size w w' := by
 go_enter func349, ntmps349; go_wp2_with (go_at_call 96; refine (qtj _ _ _).mono ?_; rintro e w' ⟨rfl, rfl⟩); go_ret; exact ⟨rfl, (by repeat (first | exact Below.refl _ _ | assumption | refine Below.drew ?_ | refine qa1 ?_ _ | refine Below.alloc ?_ (by first | omega | simp <;> omega) _ | refine Below.setCell ?_ (by first | omega | simp <;> omega) _))⟩
theorem qyr {l : List qa3} {key : ByteArray} {i : Nat} (h1 : ∀ q, (hq : q < l.length) → q < i → kl l[q].key key = true) (h2 : ∀ q, (hq : q < l.length) → i ≤ q → kl l[q].key key = false) (hi : i ≤ l.length) : posL l key = i := by
 unfold posL; by_cases hlt : i < l.length
 · rw [List.findIdx_eq hlt]
   exact ⟨by simp [h2 i hlt (Nat.le_refl _)], fun j hj => by simp [h1 j (by omega) hj]⟩
 · obtain rfl : i = l.length := by omega
   rw [List.findIdx_eq_length]; intro x hx; obtain ⟨q, hq, rfl⟩ := List.mem_iff_getElem.1 hx; simp [h1 q hq hq]
theorem qry {l : List qa3} (h : Rise l) {i j : Nat} (hj : j < l.length) (hij : i < j) : kl (l[i]'(by omega)).key l[j].key = true := List.pairwise_iff_getElem.1 h i j (by omega) hj hij
theorem qzc {l : List qa3} (h : Rise l) {key : ByteArray} {i : Nat} (hp : posL l key = i) : hasL l key = decide (∃ hi : i < l.length, l[i].key = key) := by
 subst hp; obtain ⟨A, m, B, rfl, hA, hB, hm⟩ := qdo l key h; rw [qkf hA hB hm]; have hp := qke hA hB hm; rcases hm with rfl | ⟨y, rfl, hy⟩
 · symm
   simp only [List.isEmpty_nil, Bool.not_true, decide_eq_false_iff_not, hp]; rintro ⟨hi, he⟩; cases B with
   | nil => simp at hi
   | cons b B => simp at he; exact qsr (hB b (by simp)) he.symm
 · symm
   simp only [List.isEmpty_cons, Bool.not_false, decide_eq_true_eq, hp]; exact ⟨by simp, by simpa using hy⟩
theorem qq1 (l : List qa3) (hl : Rise l) (A : Option Addr) (c : Nat) (key : ByteArray) (w : World) (hA : Arr qa3.enc 5 w w.heap.size A l) (_hc : l.length ≤ c) (_hm : c ≤ 9223372036854775807) (hb : l.length ≤ 100000) :
 Calls prog 348 #[.slice A l.length c, .string key, .func (.func 349) #[] #[]] w fun e w' => e = .returned (.tuple #[.int .i64 (posL l key : Nat), .bool (hasL l key)]) ∧ Below w.heap.size w w' := by
 have HA := hid hA; have HL := hid hl; clear hA hl; go_enter func348, ntmps348; go_wp2_with fail; go_loopw [9, 10] (fun vi vj wr => ∃ i j : Nat, vi = .int .i64 i ∧ vj = .int .i64 j ∧ i ≤ j ∧ j ≤ l.length ∧ Below w.heap.size w wr ∧ Hid (∀ q, (hq : q < l.length) → q < i → kl l[q].key key = true) ∧ Hid (∀ q, (hq : q < l.length) → j ≤ q → kl l[q].key key = false)) (fun vi vj _ => (intOf vj).toNat - (intOf vi).toNat)
 case atStart => exact ⟨0, l.length, rfl, rfl, Nat.zero_le _, Nat.le_refl _, Below.refl _ _, hid fun _ _ h => absurd h (by omega), hid fun _ h h' => absurd h (by omega)⟩
 case round =>
  obtain ⟨i, j, rfl, rfl, hij, hjn, hbw, h1, h2⟩ := hrel; have hbs := hbw.size; by_cases hlt : i < j
  · obtain ⟨h, hh⟩ : ∃ h, h = (i + j) / 2 := ⟨_, rfl⟩
    have hhl : h < l.length := by omega
    have hih : i ≤ h := by omega
    have hhj : h < j := by omega
    have e1 : IntKind.u64.wrap ((i : Int) + (j : Int)) = (i : Int) + j := by rw [IntKind.wrap_u64]; omega
    have e2 : ((i : Int) + (j : Int)) / 2 = (h : Int) := by omega
    clear hh; obtain ⟨b, off, rfl, hB, c0, c1, c2, c3, c4⟩ := (HA.out.below hbw).link hhl; cases hk : kl l[h].key key with
    | true =>
     have e3 : cmpB l[h].key key = -1 := by rw [qhw, if_pos hk]
     go_wp2_with (go_at_call 349; refine (qgv l[h] key _).mono ?_; rintro e w' ⟨rfl, hb4⟩; rw [e3]); go_roundw
     case rel =>
      refine ⟨h + 1, j, by go_num, rfl, by omega, hjn, hbw.trans (hb4.mono hbs), hid fun q hq hlt => ?_, h2⟩; rcases (by omega : q < h ∨ q = h) with hqh | rfl
      · exact qeh (qry HL.out hhl hqh) hk
      · exact hk
     case measure => simp [intOf]; omega
    | false =>
     have e3 : 0 ≤ cmpB l[h].key key := by rw [qhw, hk]; simp only [Bool.false_eq_true, if_false]; split <;> omega
     go_wp2_with (go_at_call 349; refine (qgv l[h] key _).mono ?_; rintro e w' ⟨rfl, hb4⟩); go_roundw
     case rel =>
      refine ⟨i, h, rfl, by go_num, hih, by omega, hbw.trans (hb4.mono hbs), h1, hid fun q hq hlt => ?_⟩; rcases (by omega : h < q ∨ q = h) with hqh | rfl
      · cases e : kl l[q].key key with
        | false => rfl
        | true => have := qeh (qry HL.out hq hqh) e; rw [hk] at this; cases this
      · exact hk
     case measure => simp [intOf]; omega
  · obtain rfl : i = j := by omega
    have hp : posL l key = i := qyr h1.out h2.out hjn; have hh := qzc HL.out hp; have HP := hid hp; by_cases hin : i < l.length
    · obtain ⟨b, off, rfl, hB, c0, c1, c2, c3, c4⟩ := (HA.out.below hbw).link hin
      by_cases hek : l[i].key = key
      · have e3 : cmpB l[i].key key = 0 := by rw [qhw, hek, qdh]; rfl
        have hh' : hasL l key = true := by rw [hh]; exact decide_eq_true ⟨hin, hek⟩
        have HH := hid hh'; clear hh hek hp hh'; go_wp2_with (go_at_call 349; refine (qgv l[i] key _).mono ?_; rintro e w' ⟨rfl, hb4⟩; rw [e3]); refine bodyPost_ret (v := .tuple #[.int .i64 (i : Nat), .bool true]) (by simp [results, results348, go_sem]) rfl ?_; exact ⟨by rw [HP.out, HH.out], hbw.trans (hb4.mono hbs)⟩
      · have e3 : (cmpB l[i].key key == 0) = false := by
         rw [qhw]; rcases qsq l[i].key key with h | h | h
         · simp [h]
         · exact absurd h hek
         · simp [h, qei h]
        have hh' : hasL l key = false := by rw [hh]; exact decide_eq_false fun ⟨_, h⟩ => hek h
        have HH := hid hh'; clear hh hek hp hh'; go_wp2_with (go_at_call 349; refine (qgv l[i] key _).mono ?_; rintro e w' ⟨rfl, hb4⟩); refine bodyPost_ret (v := .tuple #[.int .i64 (i : Nat), .bool false]) (by simp [results, results348, go_sem]) rfl ?_; exact ⟨by rw [HP.out, HH.out], hbw.trans (hb4.mono hbs)⟩
    · have hh' : hasL l key = false := by rw [hh]; exact decide_eq_false fun ⟨h, _⟩ => hin h
      have HH := hid hh'; clear hh hp hh'; go_wp2; refine bodyPost_ret (v := .tuple #[.int .i64 (i : Nat), .bool false]) (by simp [results, results348, go_sem]) rfl ?_; exact ⟨by rw [HP.out, HH.out], hbw⟩
theorem qli (l : List qa3) (hl : Rise l) (A : Option Addr) (c : Nat) (key : ByteArray) (w : World) (hA : Arr qa3.enc 5 w w.heap.size A l) (hc : l.length ≤ c) (hm : c ≤ 9223372036854775807) (hb : l.length ≤ 100000) :
 Calls prog 312 #[.slice A l.length c, .string key] w fun e w' => e = .returned (.tuple #[.int .i64 (posL l key : Nat), .bool (hasL l key)]) ∧ Below w.heap.size w w' := by
 have HA := hid hA; clear hA; go_enter func312, ntmps312; go_wp2_with (go_at_call 348; refine (qq1 l hl _ c key _ HA.out hc hm hb).mono ?_; rintro e w' ⟨rfl, hb4⟩); refine bodyPost_ret (v := .tuple #[.int .i64 (posL l key : Nat), .bool (hasL l key)]) (by simp [results, results312, go_sem]) rfl ?_; exact ⟨rfl, hb4⟩
end
section
open Go.RowKit
theorem qn2 {P : Program} (w : World) (t e ty : TypeId) (z : Value) (ht : P.underlying t = some (.slice e)) (hv : ∀ w, (zeroValue e).run P w = .ok z w) (h1 : ∀ v ∈ z.cells.toList, v.oneCell' = true) (b o n c : Nat) (hn : 0 < n)
 (hc : ∀ j, j < n * z.cells.size → (w.cell? ⟨b, o + j, none⟩).isSome = true) (hf : ∀ j, j < n * z.cells.size → w.frozen? ⟨b, o + j, none⟩ = false) :
 (Builtin.clear_ #[t] ty #[.slice (some ⟨b, o, none⟩) n c]).run P w = .ok (.tuple #[]) (w.setCells b o (Builtin.zeroCells z.cells n).toList) := by
 have hlen : (Builtin.zeroCells z.cells n).toList.length = n * z.cells.size := by simp [Builtin.zeroCells]
 have hone : ∀ v ∈ (Builtin.zeroCells z.cells n).toList, v.oneCell' = true := by
  intro v hv'; simp only [Builtin.zeroCells, Array.toList_map, List.mem_map] at hv'; obtain ⟨i, hi, rfl⟩ := hv'; simp at hi; have hpos : 0 < z.cells.size := by
   rcases Nat.eq_zero_or_pos z.cells.size with h0 | h0
   · rw [h0] at hi; omega
   · exact h0
  have hlt := Nat.mod_lt i hpos; rw [getElem!_pos z.cells (i % z.cells.size) hlt]; exact h1 _ (by simp)
 have hst := run_storeCells_cells (P := P) b o (Builtin.zeroCells z.cells n).toList 0 w (by rw [hlen]; simpa using hc) (by rw [hlen]; simpa using hf) hone; simp only [Nat.add_zero] at hst; obtain ⟨m, rfl⟩ : ∃ m, n = m + 1 := ⟨n - 1, by omega⟩; simp [Builtin.clear_, run_underlying ht, hv, hst]
theorem qdz {P : Program} (w : World) {ops : Array Oper} {rest : List Oper} {o : Oper} {a : Act} {Q : Exit → Act → World → Prop} (hgd : o.guard = none) (s : Operand) (t : TypeId)
 (ho : o.op = .call { callee := .builtin .clear, args := #[s], argTypes := #[t] }) (v : Value) (hs : a.eval s = v) {v' : Value} {w' : World}
 (hr : (Builtin.clear_ #[t] o.type #[v]).run P w = .ok v' w') (h : wpList P ops Q rest (a.put o.dst v') w') : wpList P ops Q (o :: rest) a w :=
 wpList_plain hgd fun _ hK => by
  unfold Oper.wp execOp
  simp only [ho, resolve, invoke, builtin, Sem.run_bind, Sem.run_pure, Result.andThen_ok, List.map_toArray, List.map_cons, List.map_nil, hs, hr]
  exact hK _ _ h
theorem Own.cut {w : World} {lo : Nat} {b off c : Nat} {l : List qa3} (h : Own qa3.enc 85 5 w lo (some ⟨b, off, none⟩) c l) {i : Nat} (hi : i ≤ l.length) (hc0 : 0 < c) (vs : List Value) (hvs : i * 5 + vs.length ≤ c * 5) :
 Own qa3.enc 85 5 (w.setCells b (off + i * 5) vs) lo (some ⟨b, off, none⟩) c (l.take i) := by
 obtain ⟨h1, h2, h3⟩ := h; rcases h3 with h3 | ⟨b', off', cur, hA, hlo, hh, hs, hc⟩
 · omega
 cases hA
 obtain ⟨cur', g1, g2, g3, g4, g5⟩ := qax vs (off + i * 5) w cur hh (by omega); refine ⟨by rw [List.length_take]; omega, h2, .inr ⟨b, off, cur', rfl, hlo, g1, by omega, fun j u hu => ?_⟩⟩; have hlt := (List.getElem?_eq_some_iff.1 hu).1; rw [qao qa3.enc_len, List.length_take] at hlt; rw [qf8 qa3.enc_len, List.getElem?_take_of_lt (by omega)] at hu; rw [g3 _ (by omega)]; exact hc j u hu
theorem qnk {a b c : World} {row : Option Nat} (h : a.grownBy b row) (k : b.grownBy c row) : a.grownBy c row :=
 ⟨k.os.trans h.os, k.tape.trans h.tape, k.output.trans h.output, Nat.le_trans h.size k.size, fun i hi hn => (k.block i (Nat.lt_of_lt_of_le hi h.size) hn).trans (h.block i hi hn)⟩
theorem Own.setLink {w : World} {lo : Nat} {b off c : Nat} {l : List qa3} (h : Own qa3.enc 85 5 w lo (some ⟨b, off, none⟩) c l) {i : Nat} (hi : i < l.length) (x : qa3) :
 Own qa3.enc 85 5 (w.setCells b (off + i * 5) x.enc) lo (some ⟨b, off, none⟩) c (l.set i x) := by
 obtain ⟨h1, h2, h3⟩ := h; rcases h3 with h3 | ⟨b', off', cur, hA, hlo, hh, hs, hc⟩
 · omega
 cases hA
 obtain ⟨cur', g1, g2, g3, g4, g5⟩ := qax x.enc (off + i * 5) w cur hh (by rw [qa3.enc_len]; omega); rw [qa3.enc_len] at g4; refine ⟨by rw [List.length_set]; exact h1, h2, .inr ⟨b, off, cur', rfl, hlo, g1, by omega, ?_⟩⟩; intro j u hu; have hlt := (List.getElem?_eq_some_iff.1 hu).1; rw [qao qa3.enc_len, List.length_set] at hlt; obtain ⟨q, r, rfl, hq, hr⟩ : ∃ q r, j = q * 5 + r ∧ q < l.length ∧ r < 5 := ⟨j / 5, j % 5, by omega, by omega, by omega⟩; rw [qb0 qa3.enc_len _ q (by rw [List.length_set]; exact hq) r hr, List.getElem_set] at hu; have hold := fun u' => hc (q * 5 + r) u'
 rw [qb0 qa3.enc_len l q hq r hr] at hold; by_cases hqi : i = q
 · subst hqi
   rw [if_pos rfl] at hu; have := g5 r u hu; rwa [Nat.add_assoc] at this
 · rw [if_neg hqi] at hu
   by_cases hlq : q < i
   · rw [g3 _ (by omega)]; exact hold u hu
   · rw [g4 _ (by omega)]; exact hold u hu
theorem qep {P : Program} {ops : Array Oper} {o : Oper} {a : Act} {w : World} {K : Act → World → Prop} {Q : Exit → Act → World → Prop} {E : Prop}
 (hg : o.guard = none) (d x : Operand) (dT sT : TypeId) (hop : o.op = Op.call { callee := Callee.builtin Builtin.append, args := #[d, x], argTypes := #[dT, sT] })
 (v u : Value) (hd : a.eval d = v) (hx : a.eval x = u) {v' : Value} {w' : World} (hr : (Builtin.append_ #[dT, sT] o.type #[v, u]).run P w = .ok v' w') (hK : K (a.put o.dst v') w') :
 if Region.wanted o (yielded ops a.tmps) = true then Oper.wp P o a w K Q else E := by
 have hw : Region.wanted o (yielded ops a.tmps) = true := by simp [Region.wanted, hg]
 rw [if_pos hw]; unfold Oper.wp execOp; simp only [hop, resolve, invoke, builtin, Sem.run_bind, Sem.run_pure, Result.andThen_ok, List.map_toArray, List.map_cons, List.map_nil, hd, hx, hr]; exact hK
theorem qju {α : Type} {enc : α → List Value} {e : TypeId} {k : Nat} {P : Program} (w : World) (t ty : TypeId) (i : TypeInfo) (ht : P.underlying t = some (.slice e)) (hi : P.info? e = some i)
 (hsize : i.size = k) (hk0 : 0 < k) (hk : ∀ x, (enc x).length = k) (h1 : ∀ x, ∀ u ∈ enc x, u.oneCell' = true)
 {lo b off c : Nat} {l : List α} (own : Own enc e k w lo (some ⟨b, off, none⟩) c l) {B : Nat} {A2 : Option Addr} {m : List α} (arr : Arr enc k w B A2 m) (c2 : Nat) (hroom : l.length + m.length ≤ c) :
 ∃ w', (Builtin.append_ #[t, t] ty #[.slice (some ⟨b, off, none⟩) l.length c, .slice A2 m.length c2]).run P w = .ok (.slice (some ⟨b, off, none⟩) (l.length + m.length) c) w' ∧ Own enc e k w' lo (some ⟨b, off, none⟩) c (l ++ m) ∧ w.grownBy w' (some b) ∧ w'.heap.size = w.heap.size := by
 by_cases hm0 : m = []
 · subst hm0
   refine ⟨w, ?_, by simpa using own, World.grownBy.refl _ _, rfl⟩; have hle := own.len; cases A2 with
   | none => simp [Builtin.append_, run_underlying ht, sizeOf, typeInfo, hi, Builtin.lenOf, Builtin.firstCells, hle, storeCells]
   | some a2 => simp [Builtin.append_, run_underlying ht, sizeOf, typeInfo, hi, Builtin.lenOf, Builtin.firstCells, hle, storeCells, loadCells, loadCellsFrom]
 rcases arr with rfl | ⟨b2, off2, rfl, hB2, hc2⟩
 · exact absurd rfl hm0
 have hml : 0 < m.length := by
  cases m with
  | nil => exact absurd rfl hm0
  | cons _ _ => simp
 have hnl : (m.flatMap enc).length = m.length * k := qao hk m; have hnews : ∀ j u, (m.flatMap enc)[j]? = some u → w.cell? ((⟨b2, off2, none⟩ : Addr).add j) = some u := by
  intro j u hu; have hj : j < m.length * k := by rw [← hnl]; exact (List.getElem?_eq_some_iff.1 hu).1
  have hq : j / k < m.length := Nat.div_lt_of_lt_mul (by rw [Nat.mul_comm]; exact hj); have hr : j % k < k := Nat.mod_lt _ hk0; have hjj : j / k * k + j % k = j := Nat.div_add_mod' j k; rw [Addr.add_lit, ← hjj, ← Nat.add_assoc]; refine hc2 (j / k) hq (j % k) u ?_; rw [← qb0 hk m (j / k) hq (j % k) hr, hjj]; exact hu
 have hone : ∀ u ∈ m.flatMap enc, u.oneCell' = true := by
  intro u hu; obtain ⟨x, _, hx⟩ := List.mem_flatMap.1 hu; exact h1 x u hx
 have hll : (l.flatMap enc).length = l.length * k := qao hk l; rcases own.2.2 with h0 | ⟨b', off', cur, hA, hlob, hh, hs, hc⟩
 · omega
 · cases hA
   subst hsize; have hfit : off + l.length * i.size + (m.flatMap enc).length ≤ cur.size := by
    rw [hnl]; have : (l.length + m.length) * i.size ≤ c * i.size := Nat.mul_le_mul_right _ hroom; rw [Nat.add_mul] at this; omega
   have hrun := run_append_room_cells (P := P) w t ty e i ht hi b off l.length c ⟨b2, off2, none⟩ m.length c2 (m.flatMap enc) hnl hnews hone hroom
    (fun j hj => by rw [cell_of_row w b _ _ _ _ hh, Array.getElem?_eq_getElem (by omega)]; rfl) (fun j hj => frozen_of_row w b _ _ _ hh)
   obtain ⟨cur', g1, g2, g3, g4, g5⟩ := qax (m.flatMap enc) (off + l.length * i.size) w cur hh hfit; refine ⟨_, hrun, ⟨by simp; omega, own.2.1, .inr ⟨b, off, cur', rfl, hlob, g1, by omega, fun j u hu => ?_⟩⟩, qb4 b _ _ w, (qam b _ _ w).2.2.2⟩; rw [List.flatMap_append] at hu; by_cases hj : j < l.length * i.size
   · rw [List.getElem?_append_left (by omega)] at hu
     rw [g3 _ (by omega)]; exact hc j u hu
   · rw [List.getElem?_append_right (by omega), hll] at hu
     have := g5 _ u hu; rwa [show off + l.length * i.size + (j - l.length * i.size) = off + j by omega] at this
theorem Own.takeL {w : World} {lo c : Nat} {A : Option Addr} {l : List qa3} (h : Own qa3.enc 85 5 w lo A c l) (i : Nat) : Own qa3.enc 85 5 w lo A c (l.take i) := by
 refine ⟨by have := h.1; rw [List.length_take]; omega, h.2.1, ?_⟩; rcases h.2.2 with h0 | ⟨b, off, cur, hA, hlo, hh, hs, hc⟩
 · exact .inl h0
 · refine .inr ⟨b, off, cur, hA, hlo, hh, hs, fun j u hu => hc j u ?_⟩
   rw [qf8 qa3.enc_len] at hu; rw [List.getElem?_take] at hu; split at hu
   · exact hu
   · cases hu
def qut (lo : Nat) (A : Option Addr) (c n : Nat) (l' : List qa3) (w : World) (e : Ending) (w' : World) : Prop :=
 e = .returned (.slice A n c) ∧ Own qa3.enc 85 5 w' lo A c l' ∧ w.grownBy w' (qa8 A c)
theorem qwq (l : List qa3) (n b off c lo i : Nat) (w : World) (own : Own qa3.enc 85 5 w lo (some ⟨b, off, none⟩) c l) (hn : l.length = n + 1) (hi : i ≤ n) :
 Calls prog 365 #[.slice (some ⟨b, off, none⟩) (n + 1) c, .int .i64 i, .int .i64 (i + 1)] w (qut lo (some ⟨b, off, none⟩) c n (l.take i ++ l.drop (i + 1)) w) := by
 obtain ⟨i0, hi0, hz0, hz1, hz2⟩ := info_parts qct; have hmax := own.max; have hlen := own.len; rw [hn] at hlen; have e1 : (l.take i).length = i := by rw [List.length_take]; omega
 have e2 : (l.drop (i + 1)).length = n - i := by rw [List.length_drop]; omega
 have harr : Arr qa3.enc 5 w w.heap.size (if c = i + 1 then some ⟨b, off, none⟩ else some ⟨b, off + (i + 1) * 5, none⟩) (l.drop (i + 1)) := by
  have := (own.arr qa3.enc_len).drop (m := i + 1) (c := c) (by omega) (by omega); simpa [Addr.add_lit] using this
 obtain ⟨w1, hr, hown1, hgr1, hsz1⟩ := qju (P := prog) w.drew 141 141 i0 underlying141 hi0 hz1 (by decide) qa3.enc_len qa3.enc_one ((own.takeL i).drew) (show Arr qa3.enc 5 w.drew w.heap.size _ _ from harr) (c - (i + 1)) (by omega); rw [e1, e2, show i + (n - i) = n by omega] at hr; have hl' : (l.take i ++ l.drop (i + 1)).length = n := by rw [List.length_append, e1, e2]; omega
 have hclr : ∀ ty cc, (Builtin.clear_ #[141] ty #[.slice (some ⟨b, off + n * 5, none⟩) 1 cc]).run prog w1 = .ok (.tuple #[]) (w1.setCells b (off + n * 5) (Builtin.zeroCells (Value.cells (.agg #[.string ByteArray.empty, .int .u64 0, .int .u64 0, .int .i64 0, .int .i64 0])) 1).toList) := fun ty cc => by
  obtain ⟨b', off', cur, hA, _, hh, hs, _⟩ : ∃ b' off' cur, (some (⟨b, off, none⟩ : Addr)) = some ⟨b', off', none⟩ ∧ lo ≤ b' ∧ w1.heap[b']? = some (.cells cur 85 (0, 0)) ∧ off' + c * 5 ≤ cur.size ∧ True := by
   rcases hown1.2.2 with h0 | ⟨b', off', cur, h1, h2, h3, h4, _⟩
   · omega
   · exact ⟨b', off', cur, h1, h2, h3, h4, trivial⟩
  cases hA
  refine qn2 w1 _ 85 ty _ underlying141 (fun w => by simp [zeroValue, typeInfo, hi0, hz0]; rfl) (by intro v hv; simp [Value.cells] at hv; rcases hv with rfl | rfl | rfl | rfl | rfl <;> rfl) b (off + n * 5) 1 cc (by omega) (fun q hq => ?_) (fun q _ => frozen_of_row w1 b _ _ _ hh); simp [Value.cells] at hq; rw [cell_of_row w1 b _ _ _ _ hh, Array.getElem?_eq_getElem (by omega)]; rfl
 have hfin : Own qa3.enc 85 5 (w1.setCells b (off + n * 5) (Builtin.zeroCells (Value.cells (.agg #[.string ByteArray.empty, .int .u64 0, .int .u64 0, .int .i64 0, .int .i64 0])) 1).toList) lo (some ⟨b, off, none⟩) c (l.take i ++ l.drop (i + 1)) := by
  have := hown1.cut (i := n) (by omega) (by omega) (Builtin.zeroCells (Value.cells (.agg #[.string ByteArray.empty, .int .u64 0, .int .u64 0, .int .i64 0, .int .i64 0])) 1).toList (by simp [Builtin.zeroCells, Value.cells]; omega); rwa [List.take_of_length_le (by omega)] at this
 have hgf : w.grownBy (w1.setCells b (off + n * 5) (Builtin.zeroCells (Value.cells (.agg #[.string ByteArray.empty, .int .u64 0, .int .u64 0, .int .i64 0, .int .i64 0])) 1).toList) (qa8 (some ⟨b, off, none⟩) c) := by
  rw [qa8, if_neg (by omega)]; exact qnk (show w.grownBy w1 (some b) from ⟨hgr1.os, hgr1.tape, hgr1.output, hgr1.size, hgr1.block⟩) (qb4 b _ _ w1)
 have HR := hid hr; have HCLR := hid hclr; have HF := hid hfin; have HG := hid hgf; clear hr hclr hfin hgf hown1 hgr1 hsz1 harr hi0 hz0 hz1 hz2 own e1 e2 hl' hn; have hz : ¬ ((i : Int) = (i : Int) + 1) := by omega
 have hw1 : IntKind.i64.wrap ((i : Int) + 1) = (i : Int) + 1 := by rw [IntKind.wrap_i64]; omega
 have htn : ((i : Int) + 1).toNat = i + 1 := by omega
 have hb3 : (i : Int) + 1 ≤ (n : Int) + 1 := by omega
 have hcn : ¬ (c = n) := by omega
 have hic : i ≤ c := by omega
 have hjc : i + 1 ≤ c := by omega
 have hin : i ≤ n := hi; have hii : (i : Int) ≤ (i : Int) + 1 := by omega
 have h0i : (0 : Int) ≤ (i : Int) + 1 := by omega
 by_cases hci : c = i + 1
 · obtain rfl : i = n := by omega
   rw [if_pos hci] at HR; subst hci; simp only [Nat.sub_self] at HR; go_enter func365, ntmps365; go_wp2_with fail; go_region_law (refine qep rfl (.tmp 22) (.tmp 25) 141 141 rfl (.slice (some ⟨b, off, none⟩) i (i + 1)) (.slice (some ⟨b, off, none⟩) 0 0) (by simp [Act.eval, Act.put]) (by simp [Act.eval, Act.put]) HR.out ?_); all_goals go_wp2_with (refine qdz _ rfl (.tmp 31) 141 rfl (.slice (some ⟨b, off + i * 5, none⟩) 1 1) (by simp [Act.eval]) (HCLR.out _ _) ?_)
   all_goals go_ret
   all_goals exact ⟨rfl, HF.out, HG.out⟩
 · rw [if_neg hci] at HR
   go_enter func365, ntmps365; go_wp2_with fail; go_region_law (refine qep rfl (.tmp 22) (.tmp 25) 141 141 rfl (.slice (some ⟨b, off, none⟩) i c) (.slice (some ⟨b, off + (i + 1) * 5, none⟩) (n - i) (c - (i + 1))) (by simp [Act.eval, Act.put]) (by simp [Act.eval, Act.put]) HR.out ?_); all_goals go_wp2_with (refine qdz _ rfl (.tmp 31) 141 rfl (.slice (some ⟨b, off + n * 5, none⟩) 1 (c - n)) (by simp [Act.eval]) (HCLR.out _ _) ?_)
   all_goals go_ret
   all_goals exact ⟨rfl, HF.out, HG.out⟩
end
section
open Go.RowKit
def qzz (S : List qan) (line : Int) (w : World) (e : Ending) (w' : World) : Prop :=
 Below w.heap.size w w' ∧ ∃ (c : Int) (ok : Bool), e = .returned (.tuple #[.int .i64 c, .bool ok]) ∧
  (ok = true → ∃ (i k : Nat) (hi : i < S.length), c = S[i].cls ∧ (∃ hk : k < S[i].taken.length, S[i].taken[k] = true) ∧ ∃ hs : k < (qb1 i S[i].cls).length, line = ((qb1 i S[i].cls)[k] : Int)) ∧
  (ok = false → qxj S line)
theorem qAb (w : World) (lo p sc : Nat) (S : List qan) (h : qb8 w lo p sc S) (line : Int) : Calls prog 340 #[.pointer (some ⟨p, 0, none⟩), .int .i64 line] w (qzz S line w) := by
 have H := hid h; have TA := hid (qya w lo p sc S h line); clear h; go_enter func340, ntmps340; go_wp2_with fail; refine TA.out.mono ?_; rintro e w1 ⟨b1, pv, kk, ok, rfl, hok, hno⟩; have HB := hid b1; have HOK := hid hok; have HNO := hid hno; clear hok hno; cases ok with
 | false =>
  go_wp2_with fail; go_ret2; exact ⟨HB.out, _, false, rfl, (fun h => by cases h), fun _ => (by first | exact HNO.out rfl | exact HNO.out trivial | exact HNO.out)⟩
 | true =>
  obtain ⟨i, k, hi, rfl, rfl, hk8, hkt, hks⟩ := HOK.out rfl; have hs := H.out.slab hi; have c0 := (HB.out.cell (p := ⟨sc, i * 10, none⟩) hs.lt).trans hs.cls; have hl := Nat.lt_of_lt_of_le hs.lt HB.out.size; have HF := hid (And.intro hkt hks); clear hs hkt hks; go_wp2_with fail; go_ret2; exact ⟨HB.out, _, true, rfl, (fun _ => ⟨i, k, hi, rfl, HF.out.1, HF.out.2⟩), fun h => by cases h⟩
end
section
open Go.RowKit
abbrev Own8 := Nat → Nat
def mark (g : Own8) (w w' : World) (i : Nat) : Own8 := fun b => if w.heap.size ≤ b ∧ b < w'.heap.size then i else g b
theorem qat {g : Own8} {w w' : World} {i b : Nat} (h : b < w.heap.size) : mark g w w' i b = g b := if_neg (by omega)
theorem qos {g : Own8} {w w' : World} {i b : Nat} (h : w.heap.size ≤ b) (h' : b < w'.heap.size) : mark g w w' i b = i := if_pos ⟨h, h'⟩
theorem qw0 {g : Own8} {w w' : World} {i b : Nat} (h : w'.heap.size ≤ b) : mark g w w' i b = g b := if_neg (by omega)
def Far (g : Own8) (w : World) : Prop := ∀ b, w.heap.size ≤ b → g b = 0
theorem Far.mono {g : Own8} {w w' : World} (h : Far g w) (hs : w.heap.size ≤ w'.heap.size) : Far g w' := fun b hb => h b (by omega)
theorem Far.mark {g : Own8} {w w' : World} (h : Far g w) (hs : w.heap.size ≤ w'.heap.size) (i : Nat) : Far (mark g w w' i) w' := fun b hb => by rw [qw0 hb]; exact h b (by omega)
theorem Only.rows {F : Nat → Prop} {w w' : World} (ho : Only F w w') {A : Option Addr} {c : Nat} (hF : ∀ b, qa8 A c = some b → ¬ F b) {α : Type} {enc : α → List Value} {e : TypeId} {k lo : Nat} {l : List α} (h : Own enc e k w lo A c l) : Own enc e k w' lo A c l := by
 refine h.keep2 ?_; by_cases hc : c = 0
 · exact .inl hc
 · refine .inr fun b off hA hlt => ho.block b hlt (hF b ?_)
   rw [qa8, if_neg hc, hA]; rfl
theorem qbb.only {F : Nat → Prop} {w w' : World} {lo p dc : Nat} {D : List qab} (h : qbb w lo p dc D) (ho : Only F w w') (h1 : ¬ F p) (h2 : ¬ F dc) : qbb w' lo p dc D := by
 obtain ⟨⟨c0, c1, c2, c3, c4, hb⟩, hr, hl, hn⟩ := h; refine ⟨⟨c0, c1, c2, c3, c4, (ho.block p (qa0 hb) h1).trans hb⟩, ho.rows (fun b hb' => ?_) hr, hl, hn⟩; rw [qa8] at hb'; split at hb'
 · cases hb'
 · cases hb'; exact h2
theorem qb8.only {F : Nat → Prop} {w w' : World} {lo p sc : Nat} {S : List qan} (h : qb8 w lo p sc S) (ho : Only F w w') (h1 : ¬ F p) (h2 : ¬ F sc) : qb8 w' lo p sc S := by
 obtain ⟨hb, hr, hl, hn⟩ := h; refine ⟨(ho.block p (qa0 hb) h1).trans hb, ho.rows (fun b hb' => ?_) hr, hl, hn⟩; rw [qa8] at hb'; split at hb'
 · cases hb'
 · cases hb'; exact h2
theorem RdAt.only {F : Nat → Prop} {w w' : World} {lo p rc now : Nat} {H : List Nat} (h : RdAt w lo p rc now H) (ho : Only F w w') (h1 : ¬ F p) (h2 : ¬ F rc) : RdAt w' lo p rc now H :=
 ⟨(ho.block p (qa0 h.box) h1).trans h.box, (ho.block rc (qa0 h.rows) h2).trans h.rows, h.lo, h.len, h.now1⟩
theorem qbi.only {F : Nat → Prop} {w w' : World} {lo p oc now dur clo : Nat} {owed : List Int} {noted left : List Bool} {step : Value} (h : qbi w lo p oc now dur clo owed noted left step) (ho : Only F w w') (h1 : ¬ F p) (h2 : ¬ F oc) : qbi w' lo p oc now dur clo owed noted left step :=
 ⟨(ho.block p (qa0 h.box) h1).trans h.box, (ho.block oc (qa0 h.rows) h2).trans h.rows, h.lo, h.len⟩
theorem qfi.only {F : Nat → Prop} {w w' : World} {lo p : Nat} {A : Option Addr} {c : Nat} {l : List EntC} (h : qfi w lo p A c l) (ho : Only F w w') (h1 : ¬ F p) (h2 : ∀ b, qa8 A c = some b → ¬ F b) : qfi w' lo p A c l :=
 ⟨(ho.block p (qa0 h.box) h1).trans h.box, ho.rows h2 h.rows, h.lo⟩
theorem qbo.only {F : Nat → Prop} {w w' : World} {lo p c at' n : Nat} {A : Option Addr} {L : List qa3} (h : qbo w lo p A c L at' n) (ho : Only F w w') (h1 : ¬ F p) (h2 : ∀ b, qa8 A c = some b → ¬ F b) : qbo w' lo p A c L at' n :=
 ⟨(ho.block p (qa0 h.box) h1).trans h.box, ho.rows h2 h.rows, h.lo, h.fit, h.nil⟩
end
section
open Go.RowKit Go.Maps Go.Sort Go.Shelf
theorem qxz (m : Nat) : AnyZ.SortsIn prog qh8 Fence.wide m :=
 ⟨fun blk off cap ss W hH hblk hsz => callsIn_wide.2 (AnyM.slices_Sort_string qA6 blk off cap ss W hH hblk hsz),
  fun p cap W => callsIn_wide.2 (AnyM.slices_Sort_string_none qA6 p cap W)⟩
theorem qss (mb : Option Nat) (W : World) : CallsIn Fence.wide 5 prog 298 #[.map mb] W fun e w' => e = .returned (.func (.func 335) #[] #[.pointer (some ⟨W.heap.size, 0, none⟩)]) ∧ w' = W.alloc (.cells #[.map mb] 195) :=
 AnyZ.keys_in qz3 Fence.wide 5 trivial rfl mb W
theorem qmz {H : Type} (b nn : Nat) (D0 : DataW H) (R : Value → Option (DataW H × List MemPlace)) (w : World) (hown : w.ownsMap prog 9 R b nn D0) (hmax : Maps.size D0 ≤ maxLen) (hbytes : Maps.size D0 * 16 ≤ 140737488355328) :
 CallsIn Fence.wide 5 prog 297 #[.func (.func 335) #[] #[.pointer (some ⟨w.heap.size, 0, none⟩)]] (w.alloc (.cells #[.map (some b)] 195)) fun e w' => ∃ (v : Value) (ss : List (List UInt8)), e = .returned v ∧ ss.Perm (strKeys D0) ∧
  w'.ownsRow (w.alloc (.cells #[.map (some b)] 195)).heap.size 9 1 v ss.length ((ss.mergeSort (fun x y => decide (x ≤ y))).map encStr) ∧ (v = .slice none 0 0 ↔ ss = []) ∧ Below (w.alloc (.cells #[.map (some b)] 195)).heap.size (w.alloc (.cells #[.map (some b)] 195)) w' := by
 have hbl := hown.lt; have hseq : SeqGives Fence.wide 2 prog 335 #[.pointer (some ⟨w.heap.size, 0, none⟩)] encStr (fun ss => ss.Perm (strKeys D0)) (Maps.size D0) (w.alloc (.cells #[.map (some b)] 195)) :=
  AnyZ.keys_gives (ρ := qho) { qz3 with } Fence.wide _ trivial rfl (by omega) w.heap.size b nn D0 _ (by simp) (by simp) (by
   obtain ⟨es, clock, hb, Ft, hs, hD⟩ := hown
   exact ⟨es, clock, (Below.heap_alloc _ _ b hbl).trans hb, Ft, hs, hD⟩)
 exact AnyZ.sorted_in qrv Fence.wide 5 trivial trivial trivial trivial rfl (by omega) (qxz _) (enters_of func334 (by kernel_rfl) rfl) 335 #[.pointer (some ⟨w.heap.size, 0, none⟩)] trivial (enters_of func335 (by kernel_rfl) rfl) _ _ hmax hbytes _ hseq
end
end Go.Proofs.YtecikkjbnkhhkaaGreat
