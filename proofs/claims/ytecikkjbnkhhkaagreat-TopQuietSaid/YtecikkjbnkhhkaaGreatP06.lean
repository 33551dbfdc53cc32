/- A part of the walk. -/
import Derived.Test.YtecikkjbnkhhkaaGreatP05
namespace Go.Proofs.YtecikkjbnkhhkaaGreat
open _root_.Go.Proofs.Tryz
set_option maxHeartbeats 4000000
set_option maxRecDepth 100000
open Go.RowKit
theorem qn2 {P : Program} (w : World) (t e ty : TypeId) (z : Value) (ht : P.underlying t = some (.slice e)) (hv : ∀ w, (zeroValue e).run P w = .ok z w) (h1 : ∀ v ∈ z.cells.toList, v.oneCell' = true) (b o n c : Nat) (hn : 0 < n)
 (hc : ∀ j, j < n * z.cells.size → (w.cell? ⟨b, o + j, none⟩).isSome = true) (hf : ∀ j, j < n * z.cells.size → w.frozen? ⟨b, o + j, none⟩ = false) :
 (Builtin.clear_ #[t] ty #[.slice (some ⟨b, o, none⟩) n c]).run P w = .ok (.tuple #[]) (w.setCells b o (Builtin.zeroCells z.cells n).toList) := by
 have hlen : (Builtin.zeroCells z.cells n).toList.length = n * z.cells.size := by simp [Builtin.zeroCells]
 have hone : ∀ v ∈ (Builtin.zeroCells z.cells n).toList, v.oneCell' = true := by
  intro v hv'; simp only [Builtin.zeroCells, Array.toList_map, List.mem_map] at hv'; obtain ⟨i, hi, rfl⟩ := hv'; simp at hi; have hpos : 0 < z.cells.size := by
   rcases Nat.eq_zero_or_pos z.cells.size with h0 | h0
   · rw [h0] at hi; omega
   · exact h0
  have hlt := Nat.mod_lt i hpos; rw [getElem!_pos z.cells (i % z.cells.size) hlt]; exact h1 _ (by simp)
 have hst := run_storeCells_cells (P := P) b o (Builtin.zeroCells z.cells n).toList 0 w (by rw [hlen]; simpa using hc) (by rw [hlen]; simpa using hf) hone; simp only [Nat.add_zero] at hst; obtain ⟨m, rfl⟩ : ∃ m, n = m + 1 := ⟨n - 1, by omega⟩; simp [Builtin.clear_, run_underlying ht, hv, hst]
theorem qdz {P : Program} (w : World) {ops : Array Oper} {rest : List Oper} {o : Oper} {a : Act} {Q : Exit → Act → World → Prop} (hgd : o.guard = none) (s : Operand) (t : TypeId)
 (ho : o.op = .call { callee := .builtin .clear, args := #[s], argTypes := #[t] }) (v : Value) (hs : a.eval s = v) {v' : Value} {w' : World}
 (hr : (Builtin.clear_ #[t] o.type #[v]).run P w = .ok v' w') (h : wpList P ops Q rest (a.put o.dst v') w') : wpList P ops Q (o :: rest) a w :=
 wpList_plain hgd fun _ hK => by
  unfold Oper.wp execOp
  simp only [ho, resolve, invoke, builtin, Sem.run_bind, Sem.run_pure, Result.andThen_ok, List.map_toArray, List.map_cons, List.map_nil, hs, hr]
  exact hK _ _ h
theorem Own.cut {w : World} {lo : Nat} {b off c : Nat} {l : List qa3} (h : Own qa3.enc 85 5 w lo (some ⟨b, off, none⟩) c l) {i : Nat} (hi : i ≤ l.length) (hc0 : 0 < c) (vs : List Value) (hvs : i * 5 + vs.length ≤ c * 5) :
 Own qa3.enc 85 5 (w.setCells b (off + i * 5) vs) lo (some ⟨b, off, none⟩) c (l.take i) := by
 obtain ⟨h1, h2, h3⟩ := h; rcases h3 with h3 | ⟨b', off', cur, hA, hlo, hh, hs, hc⟩
 · omega
 cases hA
 obtain ⟨cur', g1, g2, g3, g4, g5⟩ := qax vs (off + i * 5) w cur hh (by omega); refine ⟨by rw [List.length_take]; omega, h2, .inr ⟨b, off, cur', rfl, hlo, g1, by omega, fun j u hu => ?_⟩⟩; have hlt := (List.getElem?_eq_some_iff.1 hu).1; rw [qao qa3.enc_len, List.length_take] at hlt; rw [qf8 qa3.enc_len, List.getElem?_take_of_lt (by omega)] at hu; rw [g3 _ (by omega)]; exact hc j u hu
theorem qnk {a b c : World} {row : Option Nat} (h : a.grownBy b row) (k : b.grownBy c row) : a.grownBy c row :=
 ⟨k.os.trans h.os, k.tape.trans h.tape, k.output.trans h.output, Nat.le_trans h.size k.size, fun i hi hn => (k.block i (Nat.lt_of_lt_of_le hi h.size) hn).trans (h.block i hi hn)⟩
theorem Own.setLink {w : World} {lo : Nat} {b off c : Nat} {l : List qa3} (h : Own qa3.enc 85 5 w lo (some ⟨b, off, none⟩) c l) {i : Nat} (hi : i < l.length) (x : qa3) :
 Own qa3.enc 85 5 (w.setCells b (off + i * 5) x.enc) lo (some ⟨b, off, none⟩) c (l.set i x) := by
 obtain ⟨h1, h2, h3⟩ := h; rcases h3 with h3 | ⟨b', off', cur, hA, hlo, hh, hs, hc⟩
 · omega
 cases hA
 obtain ⟨cur', g1, g2, g3, g4, g5⟩ := qax x.enc (off + i * 5) w cur hh (by rw [qa3.enc_len]; omega); rw [qa3.enc_len] at g4; refine ⟨by rw [List.length_set]; exact h1, h2, .inr ⟨b, off, cur', rfl, hlo, g1, by omega, ?_⟩⟩; intro j u hu; have hlt := (List.getElem?_eq_some_iff.1 hu).1; rw [qao qa3.enc_len, List.length_set] at hlt; obtain ⟨q, r, rfl, hq, hr⟩ : ∃ q r, j = q * 5 + r ∧ q < l.length ∧ r < 5 := ⟨j / 5, j % 5, by omega, by omega, by omega⟩; rw [qb0 qa3.enc_len _ q (by rw [List.length_set]; exact hq) r hr, List.getElem_set] at hu; have hold := fun u' => hc (q * 5 + r) u'
 rw [qb0 qa3.enc_len l q hq r hr] at hold; by_cases hqi : i = q
 · subst hqi
   rw [if_pos rfl] at hu; have := g5 r u hu; rwa [Nat.add_assoc] at this
 · rw [if_neg hqi] at hu
   by_cases hlq : q < i
   · rw [g3 _ (by omega)]; exact hold u hu
   · rw [g4 _ (by omega)]; exact hold u hu
theorem qep {P : Program} {ops : Array Oper} {o : Oper} {a : Act} {w : World} {K : Act → World → Prop} {Q : Exit → Act → World → Prop} {E : Prop}
 (hg : o.guard = none) (d x : Operand) (dT sT : TypeId) (hop : o.op = Op.call { callee := Callee.builtin Builtin.append, args := #[d, x], argTypes := #[dT, sT] })
 (v u : Value) (hd : a.eval d = v) (hx : a.eval x = u) {v' : Value} {w' : World} (hr : (Builtin.append_ #[dT, sT] o.type #[v, u]).run P w = .ok v' w') (hK : K (a.put o.dst v') w') :
 if Region.wanted o (yielded ops a.tmps) = true then Oper.wp P o a w K Q else E := by
 have hw : Region.wanted o (yielded ops a.tmps) = true := by simp [Region.wanted, hg]
 rw [if_pos hw]; unfold Oper.wp execOp; simp only [hop, resolve, invoke, builtin, Sem.run_bind, Sem.run_pure, Result.andThen_ok, List.map_toArray, List.map_cons, List.map_nil, hd, hx, hr]; exact hK
theorem qju {α : Type} {enc : α → List Value} {e : TypeId} {k : Nat} {P : Program} (w : World) (t ty : TypeId) (i : TypeInfo) (ht : P.underlying t = some (.slice e)) (hi : P.info? e = some i)
 (hsize : i.size = k) (hk0 : 0 < k) (hk : ∀ x, (enc x).length = k) (h1 : ∀ x, ∀ u ∈ enc x, u.oneCell' = true)
 {lo b off c : Nat} {l : List α} (own : Own enc e k w lo (some ⟨b, off, none⟩) c l) {B : Nat} {A2 : Option Addr} {m : List α} (arr : Arr enc k w B A2 m) (c2 : Nat) (hroom : l.length + m.length ≤ c) :
 ∃ w', (Builtin.append_ #[t, t] ty #[.slice (some ⟨b, off, none⟩) l.length c, .slice A2 m.length c2]).run P w = .ok (.slice (some ⟨b, off, none⟩) (l.length + m.length) c) w' ∧ Own enc e k w' lo (some ⟨b, off, none⟩) c (l ++ m) ∧ w.grownBy w' (some b) ∧ w'.heap.size = w.heap.size := by
 by_cases hm0 : m = []
 · subst hm0
   refine ⟨w, ?_, by simpa using own, World.grownBy.refl _ _, rfl⟩; have hle := own.len; cases A2 with
   | none => simp [Builtin.append_, run_underlying ht, sizeOf, typeInfo, hi, Builtin.lenOf, Builtin.firstCells, hle, storeCells]
   | some a2 => simp [Builtin.append_, run_underlying ht, sizeOf, typeInfo, hi, Builtin.lenOf, Builtin.firstCells, hle, storeCells, loadCells, loadCellsFrom]
 rcases arr with rfl | ⟨b2, off2, rfl, hB2, hc2⟩
 · exact absurd rfl hm0
 have hml : 0 < m.length := by
  cases m with
  | nil => exact absurd rfl hm0
  | cons _ _ => simp
 have hnl : (m.flatMap enc).length = m.length * k := qao hk m; have hnews : ∀ j u, (m.flatMap enc)[j]? = some u → w.cell? ((⟨b2, off2, none⟩ : Addr).add j) = some u := by
  intro j u hu; have hj : j < m.length * k := by rw [← hnl]; exact (List.getElem?_eq_some_iff.1 hu).1
  have hq : j / k < m.length := Nat.div_lt_of_lt_mul (by rw [Nat.mul_comm]; exact hj); have hr : j % k < k := Nat.mod_lt _ hk0; have hjj : j / k * k + j % k = j := Nat.div_add_mod' j k; rw [Addr.add_lit, ← hjj, ← Nat.add_assoc]; refine hc2 (j / k) hq (j % k) u ?_; rw [← qb0 hk m (j / k) hq (j % k) hr, hjj]; exact hu
 have hone : ∀ u ∈ m.flatMap enc, u.oneCell' = true := by
  intro u hu; obtain ⟨x, _, hx⟩ := List.mem_flatMap.1 hu; exact h1 x u hx
 have hll : (l.flatMap enc).length = l.length * k := qao hk l; rcases own.2.2 with h0 | ⟨b', off', cur, hA, hlob, hh, hs, hc⟩
 · omega
 · cases hA
   subst hsize; have hfit : off + l.length * i.size + (m.flatMap enc).length ≤ cur.size := by
    rw [hnl]; have : (l.length + m.length) * i.size ≤ c * i.size := Nat.mul_le_mul_right _ hroom; rw [Nat.add_mul] at this; omega
   have hrun := run_append_room_cells (P := P) w t ty e i ht hi b off l.length c ⟨b2, off2, none⟩ m.length c2 (m.flatMap enc) hnl hnews hone hroom
    (fun j hj => by rw [cell_of_row w b _ _ _ _ hh, Array.getElem?_eq_getElem (by omega)]; rfl) (fun j hj => frozen_of_row w b _ _ _ hh)
   obtain ⟨cur', g1, g2, g3, g4, g5⟩ := qax (m.flatMap enc) (off + l.length * i.size) w cur hh hfit; refine ⟨_, hrun, ⟨by simp; omega, own.2.1, .inr ⟨b, off, cur', rfl, hlob, g1, by omega, fun j u hu => ?_⟩⟩, qb4 b _ _ w, (qam b _ _ w).2.2.2⟩; rw [List.flatMap_append] at hu; by_cases hj : j < l.length * i.size
   · rw [List.getElem?_append_left (by omega)] at hu
     rw [g3 _ (by omega)]; exact hc j u hu
   · rw [List.getElem?_append_right (by omega), hll] at hu
     have := g5 _ u hu; rwa [show off + l.length * i.size + (j - l.length * i.size) = off + j by omega] at this
theorem Own.takeL {w : World} {lo c : Nat} {A : Option Addr} {l : List qa3} (h : Own qa3.enc 85 5 w lo A c l) (i : Nat) : Own qa3.enc 85 5 w lo A c (l.take i) := by
 refine ⟨by have := h.1; rw [List.length_take]; omega, h.2.1, ?_⟩; rcases h.2.2 with h0 | ⟨b, off, cur, hA, hlo, hh, hs, hc⟩
 · exact .inl h0
 · refine .inr ⟨b, off, cur, hA, hlo, hh, hs, fun j u hu => hc j u ?_⟩
   rw [qf8 qa3.enc_len] at hu; rw [List.getElem?_take] at hu; split at hu
   · exact hu
   · cases hu
def qut (lo : Nat) (A : Option Addr) (c n : Nat) (l' : List qa3) (w : World) (e : Ending) (w' : World) : Prop :=
 e = .returned (.slice A n c) ∧ Own qa3.enc 85 5 w' lo A c l' ∧ w.grownBy w' (qa8 A c)
theorem qwq (l : List qa3) (n b off c lo i : Nat) (w : World) (own : Own qa3.enc 85 5 w lo (some ⟨b, off, none⟩) c l) (hn : l.length = n + 1) (hi : i ≤ n) :
 Calls prog 365 #[.slice (some ⟨b, off, none⟩) (n + 1) c, .int .i64 i, .int .i64 (i + 1)] w (qut lo (some ⟨b, off, none⟩) c n (l.take i ++ l.drop (i + 1)) w) := by
 obtain ⟨i0, hi0, hz0, hz1, hz2⟩ := info_parts qct; have hmax := own.max; have hlen := own.len; rw [hn] at hlen; have e1 : (l.take i).length = i := by rw [List.length_take]; omega
 have e2 : (l.drop (i + 1)).length = n - i := by rw [List.length_drop]; omega
 have harr : Arr qa3.enc 5 w w.heap.size (if c = i + 1 then some ⟨b, off, none⟩ else some ⟨b, off + (i + 1) * 5, none⟩) (l.drop (i + 1)) := by
  have := (own.arr qa3.enc_len).drop (m := i + 1) (c := c) (by omega) (by omega); simpa [Addr.add_lit] using this
 obtain ⟨w1, hr, hown1, hgr1, hsz1⟩ := qju (P := prog) w.drew 141 141 i0 underlying141 hi0 hz1 (by decide) qa3.enc_len qa3.enc_one ((own.takeL i).drew) (show Arr qa3.enc 5 w.drew w.heap.size _ _ from harr) (c - (i + 1)) (by omega); rw [e1, e2, show i + (n - i) = n by omega] at hr; have hl' : (l.take i ++ l.drop (i + 1)).length = n := by rw [List.length_append, e1, e2]; omega
 have hclr : ∀ ty cc, (Builtin.clear_ #[141] ty #[.slice (some ⟨b, off + n * 5, none⟩) 1 cc]).run prog w1 = .ok (.tuple #[]) (w1.setCells b (off + n * 5) (Builtin.zeroCells (Value.cells (.agg #[.string ByteArray.empty, .int .u64 0, .int .u64 0, .int .i64 0, .int .i64 0])) 1).toList) := fun ty cc => by
  obtain ⟨b', off', cur, hA, _, hh, hs, _⟩ : ∃ b' off' cur, (some (⟨b, off, none⟩ : Addr)) = some ⟨b', off', none⟩ ∧ lo ≤ b' ∧ w1.heap[b']? = some (.cells cur 85 (0, 0)) ∧ off' + c * 5 ≤ cur.size ∧ True := by
   rcases hown1.2.2 with h0 | ⟨b', off', cur, h1, h2, h3, h4, _⟩
   · omega
   · exact ⟨b', off', cur, h1, h2, h3, h4, trivial⟩
  cases hA
  refine qn2 w1 _ 85 ty _ underlying141 (fun w => by simp [zeroValue, typeInfo, hi0, hz0]; rfl) (by intro v hv; simp [Value.cells] at hv; rcases hv with rfl | rfl | rfl | rfl | rfl <;> rfl) b (off + n * 5) 1 cc (by omega) (fun q hq => ?_) (fun q _ => frozen_of_row w1 b _ _ _ hh); simp [Value.cells] at hq; rw [cell_of_row w1 b _ _ _ _ hh, Array.getElem?_eq_getElem (by omega)]; rfl
 have hfin : Own qa3.enc 85 5 (w1.setCells b (off + n * 5) (Builtin.zeroCells (Value.cells (.agg #[.string ByteArray.empty, .int .u64 0, .int .u64 0, .int .i64 0, .int .i64 0])) 1).toList) lo (some ⟨b, off, none⟩) c (l.take i ++ l.drop (i + 1)) := by
  have := hown1.cut (i := n) (by omega) (by omega) (Builtin.zeroCells (Value.cells (.agg #[.string ByteArray.empty, .int .u64 0, .int .u64 0, .int .i64 0, .int .i64 0])) 1).toList (by simp [Builtin.zeroCells, Value.cells]; omega); rwa [List.take_of_length_le (by omega)] at this
 have hgf : w.grownBy (w1.setCells b (off + n * 5) (Builtin.zeroCells (Value.cells (.agg #[.string ByteArray.empty, .int .u64 0, .int .u64 0, .int .i64 0, .int .i64 0])) 1).toList) (qa8 (some ⟨b, off, none⟩) c) := by
  rw [qa8, if_neg (by omega)]; exact qnk (show w.grownBy w1 (some b) from ⟨hgr1.os, hgr1.tape, hgr1.output, hgr1.size, hgr1.block⟩) (qb4 b _ _ w1)
 have HR := hid hr; have HCLR := hid hclr; have HF := hid hfin; have HG := hid hgf; clear hr hclr hfin hgf hown1 hgr1 hsz1 harr hi0 hz0 hz1 hz2 own e1 e2 hl' hn; have hz : ¬ ((i : Int) = (i : Int) + 1) := by omega
 have hw1 : IntKind.i64.wrap ((i : Int) + 1) = (i : Int) + 1 := by rw [IntKind.wrap_i64]; omega
 have htn : ((i : Int) + 1).toNat = i + 1 := by omega
 have hb3 : (i : Int) + 1 ≤ (n : Int) + 1 := by omega
 have hcn : ¬ (c = n) := by omega
 have hic : i ≤ c := by omega
 have hjc : i + 1 ≤ c := by omega
 have hin : i ≤ n := hi; have hii : (i : Int) ≤ (i : Int) + 1 := by omega
 have h0i : (0 : Int) ≤ (i : Int) + 1 := by omega
 by_cases hci : c = i + 1
 · obtain rfl : i = n := by omega
   rw [if_pos hci] at HR; subst hci; simp only [Nat.sub_self] at HR; go_enter func365, ntmps365; go_wp2_with fail; go_region_law (refine qep rfl (.tmp 22) (.tmp 25) 141 141 rfl (.slice (some ⟨b, off, none⟩) i (i + 1)) (.slice (some ⟨b, off, none⟩) 0 0) (by simp [Act.eval, Act.put]) (by simp [Act.eval, Act.put]) HR.out ?_); all_goals go_wp2_with (refine qdz _ rfl (.tmp 31) 141 rfl (.slice (some ⟨b, off + i * 5, none⟩) 1 1) (by simp [Act.eval]) (HCLR.out _ _) ?_)
   all_goals go_ret
   all_goals exact ⟨rfl, HF.out, HG.out⟩
 · rw [if_neg hci] at HR
   go_enter func365, ntmps365; go_wp2_with fail; go_region_law (refine qep rfl (.tmp 22) (.tmp 25) 141 141 rfl (.slice (some ⟨b, off, none⟩) i c) (.slice (some ⟨b, off + (i + 1) * 5, none⟩) (n - i) (c - (i + 1))) (by simp [Act.eval, Act.put]) (by simp [Act.eval, Act.put]) HR.out ?_); all_goals go_wp2_with (refine qdz _ rfl (.tmp 31) 141 rfl (.slice (some ⟨b, off + n * 5, none⟩) 1 (c - n)) (by simp [Act.eval]) (HCLR.out _ _) ?_)
   all_goals go_ret
   all_goals exact ⟨rfl, HF.out, HG.out⟩
end Go.Proofs.YtecikkjbnkhhkaaGreat
