/- A part of the walk. -/
import Derived.Test.YtecikkjbnkhhkaaGreatP02
namespace Go.Proofs.YtecikkjbnkhhkaaGreat
open _root_.Go.Proofs.Tryz
set_option maxHeartbeats 4000000
set_option maxRecDepth 100000
section
open Go.RowKit
structure qab where
 now : List UInt8
 kept : List UInt8
 way : List UInt8
 sent : Bool
 hn : now.length = 64
 hk : kept.length = 64
 hw : way.length = 64
def qab.enc (x : qab) : List Value := byC x.now ++ byC x.kept ++ byC x.way ++ [.bool x.sent]
theorem qab.enc_len (x : qab) : x.enc.length = 193 := by simp [qab.enc, qad, x.hn, x.hk, x.hw]
theorem qab.e_now (x : qab) {j : Nat} (hj : j < 64) : x.enc[j]? = (byC x.now)[j]? := by
 rw [qab.enc, List.getElem?_append_left (by simp [qad, x.hn, x.hk, x.hw]; omega), List.getElem?_append_left (by simp [qad, x.hn, x.hk]; omega), List.getElem?_append_left (by simp [qad, x.hn]; omega)]
theorem qab.e_kept (x : qab) {j : Nat} (hj : j < 64) : x.enc[64 + j]? = (byC x.kept)[j]? := by
 rw [qab.enc, List.getElem?_append_left (by simp [qad, x.hn, x.hk, x.hw]; omega), List.getElem?_append_left (by simp [qad, x.hn, x.hk]; omega), List.getElem?_append_right (by simp [qad, x.hn])]; simp [qad, x.hn]
theorem qab.e_way (x : qab) {j : Nat} (hj : j < 64) : x.enc[128 + j]? = (byC x.way)[j]? := by
 rw [qab.enc, List.getElem?_append_left (by simp [qad, x.hn, x.hk, x.hw]; omega), List.getElem?_append_right (by simp [qad, x.hn, x.hk])]; simp [qad, x.hn, x.hk]
theorem qab.e_sent (x : qab) : x.enc[192]? = some (.bool x.sent) := by
 rw [qab.enc, List.getElem?_append_right (by simp [qad, x.hn, x.hk, x.hw])]; simp [qad, x.hn, x.hk, x.hw]
theorem Own.setPart {α : Type} {enc : α → List Value} {e : TypeId} {k : Nat} (hk : ∀ x, (enc x).length = k) {w : World} {lo b off c : Nat} {l : List α} (h : Own enc e k w lo (some ⟨b, off, none⟩) c l) {i : Nat} (hi : i < l.length) (x : α) (o : Nat) (vs : List Value) (ho : o + vs.length ≤ k)
 (hsame : ∀ j, j < o ∨ o + vs.length ≤ j → (enc x)[j]? = (enc l[i])[j]?) (hnew : ∀ j, j < vs.length → (enc x)[o + j]? = vs[j]?) :
 Own enc e k (w.setCells b (off + i * k + o) vs) lo (some ⟨b, off, none⟩) c (l.set i x) := by
 obtain ⟨h1, h2, h3⟩ := h; have hic : (i + 1) * k ≤ c * k := Nat.mul_le_mul_right _ (by omega); rw [Nat.succ_mul] at hic; rcases h3 with h3 | ⟨b', off', cur, hA, hlo, hh, hs, hc⟩
 · omega
 cases hA
 obtain ⟨cur', g1, g2, g3, g4, g5⟩ := qax vs (off + i * k + o) w cur hh (by omega); refine ⟨by rw [List.length_set]; exact h1, h2, .inr ⟨b, off, cur', rfl, hlo, g1, by omega, ?_⟩⟩; intro j u hu; have hlt := (List.getElem?_eq_some_iff.1 hu).1; rw [qao hk, List.length_set] at hlt; have hk0 : 0 < k := by
  rcases Nat.eq_zero_or_pos k with h0 | h0
  · subst h0; omega
  · exact h0
 obtain ⟨q, r, rfl, hq, hr⟩ : ∃ q r, j = q * k + r ∧ q < l.length ∧ r < k := ⟨j / k, j % k, by rw [Nat.mul_comm]; exact (Nat.div_add_mod j k).symm, (Nat.div_lt_iff_lt_mul hk0).2 hlt, Nat.mod_lt _ hk0⟩; rw [qb0 hk _ q (by rw [List.length_set]; exact hq) r hr, List.getElem_set] at hu; have hold := fun u' => hc (q * k + r) u'
 rw [qb0 hk l q hq r hr] at hold; by_cases hqi : i = q
 · subst hqi
   rw [if_pos rfl] at hu; by_cases h6 : r < o ∨ o + vs.length ≤ r
   · rw [hsame r h6] at hu
     rcases h6 with h6 | h6
     · rw [g3 _ (by omega)]; exact hold u hu
     · rw [g4 _ (by omega)]; exact hold u hu
   · obtain ⟨s, rfl⟩ : ∃ s, r = o + s := ⟨r - o, by omega⟩
     rw [hnew s (by omega)] at hu; have := g5 s u hu; rwa [show off + (i * k + (o + s)) = off + i * k + o + s by omega]
 · rw [if_neg hqi] at hu
   by_cases hlq : q < i
   · have : (q + 1) * k ≤ i * k := Nat.mul_le_mul_right _ (by omega)
     rw [Nat.succ_mul] at this; rw [g3 _ (by omega)]; exact hold u hu
   · have : (i + 1) * k ≤ q * k := Nat.mul_le_mul_right _ (by omega)
     rw [Nat.succ_mul] at this; rw [g4 _ (by omega)]; exact hold u hu
theorem Own.part {α : Type} {enc : α → List Value} {e : TypeId} {k : Nat} (hk : ∀ x, (enc x).length = k) {w : World} {lo b off c : Nat} {l : List α} (h : Own enc e k w lo (some ⟨b, off, none⟩) c l) {i : Nat} (hi : i < l.length) {o : Nat} {vs : List Value} (ho : o + vs.length ≤ k) (hv : ∀ j, j < vs.length → (enc l[i])[o + j]? = vs[j]?) :
 w.rangeAt b (off + i * k + o) vs ∧ w.there b (off + i * k + o) vs.length ∧ b < w.heap.size := by
 obtain ⟨h1, h2, h3⟩ := h; have hic : (i + 1) * k ≤ c * k := Nat.mul_le_mul_right _ (by omega); rw [Nat.succ_mul] at hic; rcases h3 with h3 | ⟨b', off', cur, hA, hlo, hh, hs, hc⟩
 · omega
 cases hA
 have hr : w.rangeAt b (off + i * k + o) vs := fun j v hj => by
  have hjl : j < vs.length := (List.getElem?_eq_some_iff.1 hj).1; have h5 := hc (i * k + (o + j)) v (by rw [qb0 hk l i hi (o + j) (by omega), hv j hjl]; exact hj); rw [cell_of_row w b _ _ _ _ hh, ← h5]; congr 1; omega
 refine ⟨hr, fun j hj => ⟨hr.isSome j hj, frozen_of_row w b _ _ _ hh⟩, qa0 hh⟩
theorem qgm {ops : Array Oper} {rest : List Oper} {o : Oper} {a : Act} {Q : Exit → Act → World → Prop} (w : World) (hgd : o.guard = none) (d s : Operand)
 (ho : o.op = .call { callee := .builtin .copy, args := #[d, s], argTypes := #[86, 86] }) {b off dLen dCap : Nat} (hd : a.eval d = .slice (some ⟨b, off, none⟩) dLen dCap) {A : Option Addr} {sCap : Nat} {m : List UInt8} (hs : a.eval s = .slice A m.length sCap)
 {B : Nat} (arr : Arr byE 1 w B A m) (hm : m ≠ []) (hfit : m.length ≤ dLen) (ht : w.there b off m.length) (h : wpList prog ops Q rest (a.put o.dst (.int .i64 (m.length : Nat))) (w.setCells b off (byC m))) :
 wpList prog ops Q (o :: rest) a w := by
 rcases arr with h0 | ⟨sb, so, rfl, -, hc⟩
 · exact absurd h0 hm
 have hsrc : ∀ j v, (byC m)[j]? = some v → w.cell? ((⟨sb, so, none⟩ : Addr).add j) = some v := fun j v hv => by
  have hj : j < m.length := by have := (List.getElem?_eq_some_iff.1 hv).1; rwa [qad] at this
  have h1 := hc j hj 0 (.int .u8 (m[j].toNat : Int)) rfl; rw [byC, List.getElem?_map, List.getElem?_eq_getElem hj] at hv; rw [Addr.add_mid, ← hv]; simpa using h1
 have hn : (byC m).length = Nat.min m.length dLen := by rw [qad]; exact (Nat.min_eq_left hfit).symm
 have hr := run_copy_cells (P := prog) w 86 86 o.type 5 b off dLen dCap ⟨sb, so, none⟩ m.length sCap (byC m) underlying86 (by
  have := qcu
  cases hq : prog.info? 5 with
  | none => rw [hq] at this; cases this
  | some i => rw [hq] at this; simp at this; simp [this]) hn hsrc (fun j hj => (ht j (by rwa [qad] at hj)).1) (fun j hj => (ht j (by rwa [qad] at hj)).2) qcw
 refine qbp w hgd d s 86 86 ho _ _ hd hs hr ?_; rw [show goInt (byC m).length = Value.int .i64 (m.length : Nat) by rw [qad]; rfl]; exact h
structure Old2 (lo p q : Nat) (w w' : World) : Prop where
 below : Below lo w w'
 keep : ∀ b, b < w.heap.size → b ≠ p → b ≠ q → w'.heap[b]? = w.heap[b]?
theorem Old2.refl (lo p q : Nat) (w : World) : Old2 lo p q w w := ⟨Below.refl _ _, fun _ _ _ _ => rfl⟩
theorem Old2.of_below {lo p q : Nat} {w w' : World} (h : Below w.heap.size w w') (hlo : lo ≤ w.heap.size) : Old2 lo p q w w' := ⟨h.mono hlo, fun b hb _ _ => h.block b hb⟩
theorem Old2.trans {lo p q : Nat} {a b c : World} (h : Old2 lo p q a b) (k : Old2 lo p q b c) : Old2 lo p q a c := ⟨h.below.trans k.below, fun i hi h1 h2 => (k.keep i (Nat.lt_of_lt_of_le hi h.below.size) h1 h2).trans (h.keep i hi h1 h2)⟩
theorem Old2.more {lo p q : Nat} {a b c : World} (h : Old2 lo p q a b) (k : Below b.heap.size b c) (hlo : lo ≤ b.heap.size) : Old2 lo p q a c := h.trans (Old2.of_below k hlo)
theorem Old2.setP {lo p q : Nat} {a w : World} (h : Old2 lo p q a w) (hp : lo ≤ p) (o : Nat) (u : Value) : Old2 lo p q a (w.setCell ⟨p, o, none⟩ u) := ⟨h.below.setCell hp u, fun b hb hne hnq => (Below.heap_setCell _ _ _ _ hne).trans (h.keep b hb hne hnq)⟩
theorem Old2.setsQ {lo p q : Nat} {a w : World} (h : Old2 lo p q a w) (hq : lo ≤ q) (o : Nat) (vs : List Value) : Old2 lo p q a (w.setCells q o vs) := ⟨qae hq _ _ _ h.below, fun b hb hne hnq => (qb2 q vs o w b hnq).trans (h.keep b hb hne hnq)⟩
theorem Own.of_heap {α : Type} {enc : α → List Value} {e : TypeId} {k : Nat} {w w' : World} {lo b off c : Nat} {l : List α} (h : Own enc e k w lo (some ⟨b, off, none⟩) c l) (hh : w'.heap[b]? = w.heap[b]?) : Own enc e k w' lo (some ⟨b, off, none⟩) c l := by
 obtain ⟨h1, h2, h3⟩ := h; refine ⟨h1, h2, ?_⟩; rcases h3 with h3 | ⟨b', off', cur, hA, hlo, hb, hs, hc⟩
 · exact .inl h3
 · cases hA
   exact .inr ⟨b, off, cur, rfl, hlo, hh.trans hb, hs, hc⟩
def qab.over (x : qab) (o : Nat) (m : List UInt8) : qab := if h : o + m.length ≤ 64 then { x with now := qbj x.now o m, hn := by rw [qc1 (by rw [x.hn]; exact h)]; exact x.hn } else x
def qab.flush (x : qab) : qab := { x with way := x.now, sent := true, hw := x.hn }
def qab.fence (x : qab) : qab := if x.sent then { x with kept := x.way, sent := false, hk := x.hw } else x
def qab.back (x : qab) : qab := { x with kept := x.now, sent := false, hk := x.hn }
theorem qab.over_same (x : qab) {o : Nat} {m : List UInt8} (h : o + m.length ≤ 64) : ∀ j, j < o ∨ o + (byC m).length ≤ j → (x.over o m).enc[j]? = x.enc[j]? := fun j hj => by
 rw [qad] at hj
 unfold qab.over
 rw [dif_pos h]
 by_cases h64 : j < 64
 · rw [qab.e_now _ h64, qab.e_now _ h64]
   show (byC (qbj x.now o m))[j]? = _
   rw [byC, byC, List.getElem?_map, List.getElem?_map, qbj]
   congr 1
   rcases hj with hj | hj
   · rw [List.append_assoc, List.getElem?_append_left (by rw [List.length_take, x.hn]; omega), List.getElem?_take, if_pos hj]
   · rw [List.getElem?_append_right (by rw [List.length_append, List.length_take, x.hn]; omega), List.getElem?_drop, List.length_append, List.length_take, x.hn]
     congr 1
     omega
 · have e : ∀ z : qab, z.enc[j]? = (byC z.kept ++ (byC z.way ++ [.bool z.sent]))[j - 64]? := fun z => by
    rw [qab.enc, List.append_assoc, List.append_assoc, List.getElem?_append_right (by rw [qad, z.hn]; omega), qad, z.hn]
   rw [e, e]
theorem qab.over_new (x : qab) {o : Nat} {m : List UInt8} (h : o + m.length ≤ 64) : ∀ j, j < (byC m).length → (x.over o m).enc[o + j]? = (byC m)[j]? := fun j hj => by
 rw [qad] at hj
 unfold qab.over
 rw [dif_pos h, qab.e_now _ (by omega)]
 show (byC (qbj x.now o m))[o + j]? = _
 rw [byC, byC, List.getElem?_map, List.getElem?_map, qbj, List.append_assoc, List.getElem?_append_right (by rw [List.length_take, x.hn]; omega), List.length_take, x.hn, show o + j - min o 64 = j by omega, List.getElem?_append_left hj]
end
section
open Go.RowKit
theorem qom (x y : Int) (k : IntKind) (w : World) : (Op.intArith .add k x y).run prog w = .ok (.int k (k.wrap (x + y))) w := rfl
theorem qgx (b o : Nat) (c d : Int) (w : World) (h : w.cell? ⟨b, o, none⟩ = some (.int .i64 c)) (hf : w.frozen? ⟨b, o, none⟩ = false) (_hb : b < w.heap.size) : Calls prog 116 #[.pointer (some ⟨b, o, none⟩), .int .i64 d] w fun e w' => ∃ v : Int, e = .returned (.int .i64 v) ∧ w' = w.setCell ⟨b, o, none⟩ (.int .i64 v) := by
 have hadd := run_call_add (P := prog) func151 (by kernel_rfl) (by kernel_rfl) (by kernel_rfl) .i64 (by kernel_rfl) h hf (qom c d .i64 w); go_enter func116, ntmps116; go_wp2_with fail; go_ret; exact ⟨_, rfl, rfl⟩
theorem qpb (b o : Nat) (c d : Int) (w : World) (h : w.cell? ⟨b, o, none⟩ = some (.int .u64 c)) (hf : w.frozen? ⟨b, o, none⟩ = false) (_hb : b < w.heap.size) : Calls prog 265 #[.pointer (some ⟨b, o, none⟩), .int .u64 d] w fun e w' => e = .returned (.int .u64 (IntKind.u64.wrap (c + d))) ∧ w' = w.setCell ⟨b, o, none⟩ (.int .u64 (IntKind.u64.wrap (c + d))) := by
 have hadd := run_call_add (P := prog) func315 (by kernel_rfl) (by kernel_rfl) (by kernel_rfl) .u64 (by kernel_rfl) h hf (qom c d .u64 w); go_enter func265, ntmps265; go_wp2_with fail; go_ret; exact ⟨rfl, rfl⟩
theorem qe7 (b o : Nat) (c : Int) (w : World) (h : w.cell? ⟨b, o, none⟩ = some (.int .u64 c)) (_hb : b < w.heap.size) : Calls prog 64 #[.pointer (some ⟨b, o, none⟩)] w fun e w' => e = .returned (.int .u64 c) ∧ w' = w := by
 have hl := run_call_load (P := prog) func100 (by kernel_rfl) (by kernel_rfl) (by kernel_rfl) .u64 (by kernel_rfl) h; go_enter func64, ntmps64; go_wp2_with fail; go_ret; exact ⟨rfl, rfl⟩
def qB9 (w : World) (a : Addr) (u : Value) (e : Ending) (w' : World) : Prop := e = .returned (.tuple #[]) ∧ w' = w.setCell a u
theorem qfn (b o : Nat) (c d : Int) (w : World) (h : w.cell? ⟨b, o, none⟩ = some (.int .u64 c)) (hf : w.frozen? ⟨b, o, none⟩ = false) (_hb : b < w.heap.size) : Calls prog 101 #[.pointer (some ⟨b, o, none⟩), .int .u64 d] w (qB9 w ⟨b, o, none⟩ (.int .u64 d)) := by
 have hs := run_call_store (P := prog) func133 (by kernel_rfl) (by kernel_rfl) (by kernel_rfl) (by kernel_rfl) (k := .u64) (y := d) h hf; go_enter func101, ntmps101; go_wp2_with fail; refine bodyPost_ret (v := .tuple #[]) (by simp [results, results101]) rfl ⟨rfl, rfl⟩
theorem qx2 (b o : Nat) (c d : Int) (w : World) (h : w.cell? ⟨b, o, none⟩ = some (.int .u64 c)) (hf : w.frozen? ⟨b, o, none⟩ = false) (_hb : b < w.heap.size) : Calls prog 206 #[.pointer (some ⟨b, o, none⟩), .int .u64 c, .int .u64 d] w fun e w' => e = .returned (.bool true) ∧ w' = w.setCell ⟨b, o, none⟩ (.int .u64 d) := by
 have hs := run_call_cas_hit (P := prog) func263 (by kernel_rfl) (by kernel_rfl) (by kernel_rfl) .u64 (by kernel_rfl) (y := d) h hf; go_enter func206, ntmps206; go_wp2_with fail; go_ret; exact ⟨rfl, rfl⟩
theorem qtq (b o : Nat) (c x d : Int) (hne : ¬ c = x) (w : World) (h : w.cell? ⟨b, o, none⟩ = some (.int .u64 c)) (hf : w.frozen? ⟨b, o, none⟩ = false) (_hb : b < w.heap.size) : Calls prog 206 #[.pointer (some ⟨b, o, none⟩), .int .u64 x, .int .u64 d] w fun e w' => e = .returned (.bool false) ∧ w' = w := by
 have hs := run_call_cas_miss (P := prog) func263 (by kernel_rfl) (by kernel_rfl) (by kernel_rfl) .u64 (by kernel_rfl) (o := x) (y := d) h hf hne; go_enter func206, ntmps206; go_wp2_with fail; go_ret; exact ⟨rfl, rfl⟩
end
section
open Go.RowKit
structure qbb (w : World) (lo p dc : Nat) (D : List qab) : Prop where
 box : ∃ c0 c1 c2 c3 c4 : Int, w.heap[p]? = some (.cells #[.slice (some ⟨dc, 0, none⟩) D.length D.length, .int .i64 c0, .int .i64 c1, .int .i64 c2, .int .i64 c3, .int .i64 c4] 160 (0, 0))
 rows : Own qab.enc 247 193 w lo (some ⟨dc, 0, none⟩) D.length D
 lo : lo ≤ p ∧ lo ≤ dc ∧ p ≠ dc
 len : 1 ≤ D.length ∧ D.length ≤ 258
theorem qez (w : World) (lo p dc : Nat) (D : List qab) (h : qbb w lo p dc D) (i at' n : Nat) (hi : i < D.length) (hn : at' + n ≤ 64) : Calls prog 115 #[.pointer (some ⟨p, 0, none⟩), .int .i64 (i : Int), .int .i64 (at' : Int), .int .i64 (n : Int)] w fun e w' => e = .returned (.int .i64 0) ∧ w' = w := by
 obtain ⟨k0, k1, k2, k3, k4, hb⟩ := h.box; have hlen := h.len; have hp := qa0 hb; have p0 := cell_of_row w p 0 _ _ _ hb; have g0 : ¬ (i : Int) < 0 := by omega
 have g1 : ¬ (D.length : Int) ≤ (i : Int) := by omega
 have g2 : ¬ (at' : Int) < 0 := by omega
 have g3 : IntKind.i64.wrap ((64 : Int) - (n : Int)) = 64 - (n : Int) := Go.IntWalk.i64_in _ (by omega); have g4 : ¬ 64 - (n : Int) < (at' : Int) := by omega
 clear h hb; go_enter func115, ntmps115; go_wp2_with fail; go_ret; exact ⟨rfl, rfl⟩
theorem qvc (w : World) (lo p dc : Nat) (D : List qab) (h : qbb w lo p dc D) (i : Int) (hi : i < 0 ∨ (D.length : Int) ≤ i) (at' n : Int) : Calls prog 115 #[.pointer (some ⟨p, 0, none⟩), .int .i64 i, .int .i64 at', .int .i64 n] w fun e w' => e = .returned (.int .i64 2) ∧ w' = w := by
 obtain ⟨k0, k1, k2, k3, k4, hb⟩ := h.box; have hlen := h.len; have hp := qa0 hb; have p0 := cell_of_row w p 0 _ _ _ hb; clear h hb; by_cases g0 : i < 0
 · go_enter func115, ntmps115
   go_wp2_with fail; go_ret; exact ⟨rfl, rfl⟩
 · have g1 : (D.length : Int) ≤ i := by omega
   go_enter func115, ntmps115; go_wp2_with fail; go_ret; exact ⟨rfl, rfl⟩
theorem qhn (w : World) (lo p dc : Nat) (D : List qab) (h : qbb w lo p dc D) : Calls prog 69 #[.pointer (some ⟨p, 0, none⟩)] w fun e w' => e = .returned (.int .i64 (D.length : Nat)) ∧ w' = w := by
 obtain ⟨k0, k1, k2, k3, k4, hb⟩ := h.box; have hp := qa0 hb; have p0 := cell_of_row w p 0 _ _ _ hb; clear h hb; go_enter func69, ntmps69; go_wp2_with fail; go_ret; exact ⟨rfl, rfl⟩
theorem qbb.count {w : World} {lo p dc : Nat} {D : List qab} (h : qbb w lo p dc D) {q : Nat} (hq : 1 ≤ q ∧ q ≤ 5) (v : Int) : qbb (w.setCell ⟨p, q, none⟩ (.int .i64 v)) lo p dc D := by
 obtain ⟨k0, k1, k2, k3, k4, hb⟩ := h.box; have hs := heap_setCell_same _ p q _ _ (.int .i64 v) hb; refine ⟨?_, h.rows.of_heap (Below.heap_setCell _ _ _ _ (Ne.symm h.lo.2.2)), h.lo, h.len⟩; rcases (by omega : q = 1 ∨ q = 2 ∨ q = 3 ∨ q = 4 ∨ q = 5) with rfl | rfl | rfl | rfl | rfl
 · exact ⟨v, k1, k2, k3, k4, hs⟩
 · exact ⟨k0, v, k2, k3, k4, hs⟩
 · exact ⟨k0, k1, v, k3, k4, hs⟩
 · exact ⟨k0, k1, k2, v, k4, hs⟩
 · exact ⟨k0, k1, k2, k3, v, hs⟩
theorem qbb.set {w w' : World} {lo p dc : Nat} {D D' : List qab} (h : qbb w lo p dc D) (hr : Own qab.enc 247 193 w' lo (some ⟨dc, 0, none⟩) D.length D') (hl : D'.length = D.length) (hh : w'.heap[p]? = w.heap[p]?) : qbb w' lo p dc D' := by
 obtain ⟨k0, k1, k2, k3, k4, hb⟩ := h.box; exact ⟨⟨k0, k1, k2, k3, k4, by rw [hh, hl]; exact hb⟩, by rw [hl]; exact hr, h.lo, by rw [hl]; exact h.len⟩
theorem qbb.cnt {w : World} {lo p dc : Nat} {D : List qab} (h : qbb w lo p dc D) {q : Nat} (hq : 1 ≤ q ∧ q ≤ 5) : ∃ c : Int, w.cell? ⟨p, q, none⟩ = some (.int .i64 c) ∧ w.frozen? ⟨p, q, none⟩ = false ∧ p < w.heap.size := by
 obtain ⟨k0, k1, k2, k3, k4, hb⟩ := h.box; have hp := qa0 hb; have hf := frozen_of_row w p q _ _ hb; rcases (by omega : q = 1 ∨ q = 2 ∨ q = 3 ∨ q = 4 ∨ q = 5) with rfl | rfl | rfl | rfl | rfl
 · exact ⟨k0, cell_of_row w p 1 _ _ _ hb, hf, hp⟩
 · exact ⟨k1, cell_of_row w p 2 _ _ _ hb, hf, hp⟩
 · exact ⟨k2, cell_of_row w p 3 _ _ _ hb, hf, hp⟩
 · exact ⟨k3, cell_of_row w p 4 _ _ _ hb, hf, hp⟩
 · exact ⟨k4, cell_of_row w p 5 _ _ _ hb, hf, hp⟩
theorem qq8 : prog.underlying 245 = some (.array (prog.arrayLen 245) (prog.elem 245)) := by kernel_rfl
theorem qoy : prog.arrayLen 245 = 64 := by kernel_rfl
theorem qsm : (prog.info? (prog.elem 245)).map (·.size) = some 1 := by kernel_rfl
theorem qpy (b o l : Nat) (hl : l < 64) (W : World) : (Instr.sliceAt 245 (.pointer (some ⟨b, o, none⟩)) (some (.int .i64 (l : Int))) none none).run prog W = .ok (.slice (some ⟨b, o + l, none⟩) (64 - l) (64 - l)) W := by
 rw [run_sliceAt_array_l (P := prog) W 245 ⟨b, o, none⟩ qq8 .i64 (l : Int) (by omega) (by rw [qoy]; omega), qoy]; have hs : (sizeOf (prog.elem 245)).run prog W = .ok 1 W := by
  have h := qsm; cases hq : prog.info? (prog.elem 245) with
  | none => rw [hq] at h; cases h
  | some i => rw [hq] at h; simp at h; simp [sizeOf, typeInfo, hq, h]
 rw [hs]; simp only [Result.andThen_ok, slicedAt, Int.toNat_natCast]; rw [if_neg (by omega), Nat.mul_one, Addr.add_mid]
def qfg (lo p dc : Nat) (D : List qab) (w : World) (e : Ending) (w' : World) : Prop := e = .returned (.int .i64 0) ∧ qbb w' lo p dc D ∧ Old2 lo p dc w w'
theorem qh7 (w : World) (lo p dc : Nat) (D : List qab) (h : qbb w lo p dc D) (i at' : Nat) (hi : i < D.length) (m : List UInt8) (A : Option Addr) (c : Nat) (hA : Arr byE 1 w w.heap.size A m) (hm : m ≠ []) (hfit : at' + m.length ≤ 64) (_hc : m.length ≤ c) :
 Calls prog 105 #[.pointer (some ⟨p, 0, none⟩), .int .i64 (i : Int), .int .i64 (at' : Int), .slice A m.length c] w (qfg lo p dc (D.set i (D[i].over at' m)) w) := by
 have H := hid h; have HA := hid hA; have HM := hid hm; have hm0 : 0 < m.length := List.length_pos_iff.2 hm; have hsl := qpy dc (i * 193) at' (by omega); obtain ⟨k0, k1, k2, k3, k4, hb⟩ := h.box; have hlen := h.len; have hp := qa0 hb; have p0 := cell_of_row w p 0 _ _ _ hb; have hpart := h.rows.part qab.enc_len hi (o := at') (vs := byC ((D[i].now.drop at').take m.length)) (by rw [qad, List.length_take, List.length_drop, D[i].hn]; omega) (fun j hj => by
  rw [qad, List.length_take, List.length_drop, D[i].hn] at hj
  rw [qab.e_now _ (by omega), byC, byC, List.getElem?_map, List.getElem?_map, List.getElem?_take, if_pos (by omega), List.getElem?_drop])
 have hth : w.there dc (i * 193 + at') m.length := by
  have := hpart.2.1; rwa [Nat.zero_add, qad, List.length_take, List.length_drop, D[i].hn, Nat.min_eq_left (by omega)] at this
 have HTH := hid hth; have hdc := hpart.2.2; have hii : (i : Int) < (D.length : Int) := by omega
 have T0 := hid (qez w lo p dc D h i at' m.length hi hfit); clear h hA hm hb hpart hth; go_enter func105, ntmps105; go_wp2_with fail; refine T0.out.mono ?_; rintro e w1 ⟨rfl, rfl⟩; go_upto_region 5 with (refine qgm (m := m) (A := A) w1 rfl (.tmp 27) (.tmp 28) rfl (by first | rfl | simp [Act.eval]) (by first | rfl | simp [Act.eval]) HA.out HM.out (by omega) HTH.out ?_); have hR : Own qab.enc 247 193 (w1.setCells dc (i * 193 + at') (byC m)) lo (some ⟨dc, 0, none⟩) D.length (D.set i (D[i].over at' m)) := by
  have := H.out.rows.setPart qab.enc_len hi (D[i].over at' m) at' (byC m) (by rw [qad]; omega) (qab.over_same _ hfit) (qab.over_new _ hfit); rwa [Nat.zero_add] at this
 have hD := H.out.set hR (by simp) (qb2 _ _ _ _ _ H.out.lo.2.2); have hO : Old2 lo p dc w1 (w1.setCells dc (i * 193 + at') (byC m)) := (Old2.refl _ _ _ _).setsQ H.out.lo.2.1 _ _; simp only [Act.put, List.setIfInBounds_toArray, List.set_cons_succ, List.set_cons_zero]; generalize World.setCells _ _ _ _ = w2 at *; have HD := hid hD; have HO := hid hO; obtain ⟨c9, n0, nf, hp2⟩ := hD.cnt (q := 1) (by omega); clear hD hO hR T0 p0 hsl; go_wp2_with fail; refine (qgx p 1 c9 1 w2 n0 nf hp2).mono ?_; rintro e w3 ⟨v9, rfl, rfl⟩; go_wp2_with fail; go_ret; exact ⟨rfl, HD.out.count (by omega) v9, HO.out.setP HD.out.lo.1 _ _⟩
end
section
open Go.RowKit
def quk (l : List UInt8) (w : World) (e : Ending) (w' : World) : Prop := ∃ A c, e = .returned (.tuple #[.slice A 64 c, .int .i64 0]) ∧ Own byE 5 1 w' w.heap.size A c l ∧ Below w.heap.size w w'
theorem Own.lineArr {w : World} {lo dc n : Nat} {D : List qab} (h : Own qab.enc 247 193 w lo (some ⟨dc, 0, none⟩) n D) {i : Nat} (hi : i < D.length) : Arr byE 1 w w.heap.size (some ⟨dc, i * 193, none⟩) D[i].now := by
 have hp := h.part qab.enc_len hi (o := 0) (vs := byC D[i].now) (by rw [qad, D[i].hn]; omega) (fun j hj => by rw [qad, D[i].hn] at hj; rw [Nat.zero_add, qab.e_now _ hj]); refine .inr ⟨dc, i * 193, rfl, hp.2.2, fun q hq j u hu => ?_⟩; have hj : j = 0 := by
  have := (List.getElem?_eq_some_iff.1 hu).1; rw [qbn] at this; omega
 subst hj; have := hp.1 q (.int .u8 (D[i].now[q].toNat : Int)) (by rw [byC, List.getElem?_map, List.getElem?_eq_getElem hq]; rfl); rw [Nat.mul_one, Nat.add_zero]; rw [show 0 + i * 193 + 0 + q = i * 193 + q by omega] at this; rw [this]; simpa [byE] using hu
theorem qow (w : World) (lo p dc : Nat) (D : List qab) (h : qbb w lo p dc D) (i : Nat) (hi : i < D.length) : Calls prog 87 #[.pointer (some ⟨p, 0, none⟩), .int .i64 (i : Int)] w (quk D[i].now w) := by
 obtain ⟨k0, k1, k2, k3, k4, hb⟩ := h.box; have hlen := h.len; have hp := qa0 hb; have p0 := cell_of_row w p 0 _ _ _ hb; have hdc := (h.rows.lineArr hi); have T0 := hid (qez w lo p dc D h i 0 0 hi (by omega)); have T1 := qhy D[i].now (some ⟨dc, i * 193, none⟩) 64 w hdc (by rw [D[i].hn]; omega); rw [D[i].hn] at T1; have HT1 := hid T1; have hii : (i : Int) < (D.length : Int) := by omega
 have hdl : dc < w.heap.size := by
  rcases h.rows.lt with h0 | ⟨b', o', hA, -, h1⟩
  · omega
  · cases hA; exact h1
 clear h hb hdc T1; go_enter func87, ntmps87; go_wp2_with fail; refine T0.out.mono ?_; rintro e w1 ⟨rfl, rfl⟩; go_wp2_with fail; refine HT1.out.mono ?_; rintro e w2 ⟨A, c, rfl, hown, hb2⟩; have HH := hid (And.intro hown hb2); have hl : D[i].now.length = 64 := D[i].hn; rw [hl]; clear hown hb2; go_wp2_with fail; go_ret2; exact ⟨A, c, rfl, HH.out.1, HH.out.2⟩
theorem qdg : (prog.info? 245).map (·.size) = some 64 := by kernel_rfl
theorem qab.flush_same (x : qab) : ∀ j, j < 128 ∨ 128 + (byC x.now ++ [Value.bool true]).length ≤ j → (x.flush).enc[j]? = x.enc[j]? := fun j hj => by
 rcases hj with hj | hj
 · have e : ∀ z : qab, z.enc[j]? = (byC z.now ++ byC z.kept)[j]? := fun z => by
    rw [qab.enc, List.append_assoc, List.getElem?_append_left (by rw [List.length_append, qad, qad, z.hn, z.hk]; omega)]
   rw [e, e]
   rfl
 · rw [List.length_append, qad, x.hn] at hj
   simp only [List.length_cons, List.length_nil] at hj
   rw [List.getElem?_eq_none (by rw [qab.enc_len]; omega), List.getElem?_eq_none (by rw [qab.enc_len]; omega)]
theorem qab.flush_new (x : qab) : ∀ j, j < (byC x.now ++ [Value.bool true]).length → (x.flush).enc[128 + j]? = (byC x.now ++ [Value.bool true])[j]? := fun j hj => by
 rw [List.length_append, qad, x.hn] at hj
 simp only [List.length_cons, List.length_nil] at hj
 rcases (by omega : j < 64 ∨ j = 64) with h | rfl
 · rw [qab.e_way _ h, List.getElem?_append_left (by rw [qad, x.hn]; exact h)]
   rfl
 · rw [qab.e_sent, List.getElem?_append_right (by rw [qad, x.hn]; omega), qad, x.hn]
   rfl
theorem qab.back_same (x : qab) : ∀ j, j < 64 ∨ 64 + (byC x.now).length ≤ j → ({ x with kept := x.now, hk := x.hn } : qab).enc[j]? = x.enc[j]? := fun j hj => by
 rw [qad, x.hn] at hj
 rcases hj with hj | hj
 · rw [qab.e_now _ hj, qab.e_now _ hj]
 · have e : ∀ z : qab, z.enc[j]? = (byC z.way ++ [.bool z.sent])[j - 128]? := fun z => by
    rw [qab.enc, List.append_assoc, List.getElem?_append_right (by rw [List.length_append, qad, qad, z.hn, z.hk]; omega), List.length_append, qad, qad, z.hn, z.hk]
   rw [e, e]
theorem qe2 (b : Nat) : ∀ (vs ws : List Value) (o : Nat) (w : World), w.setCells b o (vs ++ ws) = (w.setCells b o vs).setCells b (o + vs.length) ws
 | [], ws, o, w => rfl
 | v :: r, ws, o, w => by
  rw [List.cons_append, World.setCells, qe2 b r ws (o + 1), World.setCells, List.length_cons]
  congr 1
  omega
structure qBb (w : World) (dc i : Nat) (x : qab) : Prop where
 now : w.rangeAt dc (i * 193) (byC x.now)
 way : w.rangeAt dc (i * 193 + 128) (byC x.way)
 tkept : w.there dc (i * 193 + 64) 64
 tway : w.there dc (i * 193 + 128) 64
 sent : w.cell? ⟨dc, i * 193 + 192, none⟩ = some (.bool x.sent)
 fsent : w.frozen? ⟨dc, i * 193 + 192, none⟩ = false
 lt : dc < w.heap.size
theorem qbb.line {w : World} {lo p dc : Nat} {D : List qab} (h : qbb w lo p dc D) {i : Nat} (hi : i < D.length) : qBb w dc i D[i] := by
 have h0 := h.rows.part qab.enc_len hi (o := 0) (vs := byC D[i].now) (by rw [qad, D[i].hn]; omega) (fun j hj => by rw [qad, D[i].hn] at hj; rw [Nat.zero_add, qab.e_now _ hj]); have h1 := h.rows.part qab.enc_len hi (o := 64) (vs := byC D[i].kept) (by rw [qad, D[i].hk]; omega) (fun j hj => by rw [qad, D[i].hk] at hj; rw [qab.e_kept _ hj]); have h2 := h.rows.part qab.enc_len hi (o := 128) (vs := byC D[i].way) (by rw [qad, D[i].hw]; omega) (fun j hj => by rw [qad, D[i].hw] at hj; rw [qab.e_way _ hj]); have h3 := h.rows.part qab.enc_len hi (o := 192) (vs := [.bool D[i].sent]) (by simp) (fun j hj => by
  simp only [List.length_cons, List.length_nil] at hj
  obtain rfl : j = 0 := by omega
  rw [Nat.add_zero, qab.e_sent]; rfl)
 rw [qad, D[i].hk] at h1; rw [qad, D[i].hw] at h2; simp only [Nat.zero_add, Nat.add_zero] at h0 h1 h2 h3; refine ⟨h0.1, h2.1, h1.2.1, h2.2.1, h3.1 0 _ rfl, ?_, h0.2.2⟩; have := (h3.2.1 0 (by simp)).2; simpa using this
theorem qlw (w : World) (lo p dc : Nat) (D : List qab) (h : qbb w lo p dc D) (i : Nat) (hi : i < D.length) : Calls prog 107 #[.pointer (some ⟨p, 0, none⟩), .int .i64 (i : Int)] w (qfg lo p dc (D.set i D[i].flush) w) := by
 have H := hid h; obtain ⟨k0, k1, k2, k3, k4, hb⟩ := h.box; have hlen := h.len; have hp := qa0 hb; have p0 := cell_of_row w p 0 _ _ _ hb; have HL := hid (h.line hi); have hdl := HL.out.lt; have T0 := hid (qez w lo p dc D h i 0 0 hi (by omega)); have hii : (i : Int) < (D.length : Int) := by omega
 have hbl : (byC D[i].now).length = 64 := by rw [qad, D[i].hn]
 have HTW : Hid (w.there dc (i * 193 + 128) (byC D[i].now).toArray.size) := hid (by rw [show (byC D[i].now).toArray.size = 64 from hbl]; exact HL.out.tway); have HIA : Hid ((prog.info? 245).map (·.size) = some (byC D[i].now).toArray.size) := hid (by rw [show (byC D[i].now).toArray.size = 64 from hbl]; exact qdg); have HIL : Hid ((prog.info? 245).map (·.size) = some (byC D[i].now).length) := hid (by rw [hbl]; exact qdg); have n192 : (w.setCells dc (i * 193 + 128) (byC D[i].now)).cell? ⟨dc, i * 193 + 192, none⟩ = some (.bool D[i].sent) := by
  rw [World.cell?_setCells_out dc _ _ _ _ (fun _ _ => .inr (by rw [hbl]; show i * 193 + 128 + 64 ≤ i * 193 + 192; omega)), HL.out.sent]
 have f192 : (w.setCells dc (i * 193 + 128) (byC D[i].now)).frozen? ⟨dc, i * 193 + 192, none⟩ = false := by
  rw [World.frozen?_setCells]; exact HL.out.fsent
 have hR : Own qab.enc 247 193 ((w.setCells dc (i * 193 + 128) (byC D[i].now)).setCell ⟨dc, i * 193 + 192, none⟩ (.bool true)) lo (some ⟨dc, 0, none⟩) D.length (D.set i D[i].flush) := by
  have := h.rows.setPart qab.enc_len hi D[i].flush 128 (byC D[i].now ++ [.bool true]) (by rw [List.length_append, hbl]; simp) (qab.flush_same _) (qab.flush_new _); rwa [Nat.zero_add, qe2, hbl] at this
 have HR := hid hR; clear h hb hR hbl; go_enter func107, ntmps107; go_wp2_with fail; refine T0.out.mono ?_; rintro e w1 ⟨rfl, rfl⟩; go_upto_region 6 with (first | (refine wpList_load_mid rfl 245 (.tmp 23) rfl dc (i * 193) (by first | rfl | simp [Act.eval]) (byC D[i].now) _ HL.out.now underlying245 rfl HIL.out ?_) | (refine wpList_store_mid rfl 245 (.tmp 26) (.tmp 24) rfl dc (i * 193 + 128) (byC D[i].now).toArray (by first | rfl | simp [Act.eval]) (by first | rfl | simp [Act.eval]) HTW.out HIA.out (all_oneCell_toArray qcw) ?_)); have hD := H.out.set HR.out (by simp) ((Below.heap_setCell _ _ _ _ H.out.lo.2.2).trans (qb2 _ _ _ _ _ H.out.lo.2.2)); have hO : Old2 lo p dc w1 ((w1.setCells dc (i * 193 + 128) (byC D[i].now)).setCell ⟨dc, i * 193 + 192, none⟩ (.bool true)) := by
  have h1 := (Old2.refl lo p dc w1).setsQ H.out.lo.2.1 (i * 193 + 128) (byC D[i].now); exact ⟨h1.below.setCell H.out.lo.2.1 _, fun b hb hne hnq => (Below.heap_setCell _ _ _ _ hnq).trans (h1.keep b hb hne hnq)⟩
 clear HR HTW HIA HIL n192 f192 p0 T0; generalize World.setCell _ _ _ = w2 at *; have HD := hid hD; have HO := hid hO; obtain ⟨c9, n0, nf, hp2⟩ := hD.cnt (q := 2) (by omega); clear hD hO; go_wp2_with fail; refine (qgx p 2 c9 1 w2 n0 nf hp2).mono ?_; rintro e w3 ⟨v9, rfl, rfl⟩; go_wp2_with fail; go_ret; exact ⟨rfl, HD.out.count (by omega) v9, HO.out.setP HD.out.lo.1 _ _⟩
end
section
open Go.RowKit
theorem qab.back_new (x : qab) : ∀ j, j < (byC x.now).length → ({ x with kept := x.now, hk := x.hn } : qab).enc[64 + j]? = (byC x.now)[j]? := fun j hj => by
 rw [qad, x.hn] at hj
 rw [qab.e_kept _ hj]
theorem qab.sent_same (x : qab) (v : Bool) : ∀ j, j < 192 ∨ 192 + [Value.bool v].length ≤ j → ({ x with sent := v } : qab).enc[j]? = x.enc[j]? := fun j hj => by
 simp only [List.length_cons, List.length_nil] at hj
 rcases hj with hj | hj
 · have e : ∀ z : qab, z.enc[j]? = (byC z.now ++ byC z.kept ++ byC z.way)[j]? := fun z => by
    rw [qab.enc, List.getElem?_append_left (by rw [List.length_append, List.length_append, qad, qad, qad, z.hn, z.hk, z.hw]; exact hj)]
   rw [e, e]
 · rw [List.getElem?_eq_none (by rw [qab.enc_len]; omega), List.getElem?_eq_none (by rw [qab.enc_len]; omega)]
theorem qab.sent_new (x : qab) (v : Bool) : ∀ j, j < [Value.bool v].length → ({ x with sent := v } : qab).enc[192 + j]? = [Value.bool v][j]? := fun j hj => by
 simp only [List.length_cons, List.length_nil] at hj
 obtain rfl : j = 0 := by omega
 rw [Nat.add_zero, qab.e_sent]
 rfl
theorem qx8 (w : World) (lo p dc : Nat) (D : List qab) (h : qbb w lo p dc D) (i : Nat) (hi : i < D.length) : Calls prog 85 #[.pointer (some ⟨p, 0, none⟩), .int .i64 (i : Int)] w (qfg lo p dc (D.set i D[i].back) w) := by
 have H := hid h; obtain ⟨k0, k1, k2, k3, k4, hb⟩ := h.box; have hlen := h.len; have hp := qa0 hb; have p0 := cell_of_row w p 0 _ _ _ hb; have HL := hid (h.line hi); have hdl := HL.out.lt; have T0 := hid (qez w lo p dc D h i 0 0 hi (by omega)); have hii : (i : Int) < (D.length : Int) := by omega
 have hbl : (byC D[i].now).length = 64 := by rw [qad, D[i].hn]
 have HTW : Hid (w.there dc (i * 193 + 64) (byC D[i].now).toArray.size) := hid (by rw [show (byC D[i].now).toArray.size = 64 from hbl]; exact HL.out.tkept); have HIA : Hid ((prog.info? 245).map (·.size) = some (byC D[i].now).toArray.size) := hid (by rw [show (byC D[i].now).toArray.size = 64 from hbl]; exact qdg); have HIL : Hid ((prog.info? 245).map (·.size) = some (byC D[i].now).length) := hid (by rw [hbl]; exact qdg); have n192 : (w.setCells dc (i * 193 + 64) (byC D[i].now)).cell? ⟨dc, i * 193 + 192, none⟩ = some (.bool D[i].sent) := by
  rw [World.cell?_setCells_out dc _ _ _ _ (fun _ _ => .inr (by rw [hbl]; show i * 193 + 64 + 64 ≤ i * 193 + 192; omega)), HL.out.sent]
 have f192 : (w.setCells dc (i * 193 + 64) (byC D[i].now)).frozen? ⟨dc, i * 193 + 192, none⟩ = false := by
  rw [World.frozen?_setCells]; exact HL.out.fsent
 have hR : Own qab.enc 247 193 ((w.setCells dc (i * 193 + 64) (byC D[i].now)).setCell ⟨dc, i * 193 + 192, none⟩ (.bool false)) lo (some ⟨dc, 0, none⟩) D.length (D.set i D[i].back) := by
  have h1 := h.rows.setPart qab.enc_len hi { D[i] with kept := D[i].now, hk := D[i].hn } 64 (byC D[i].now) (by rw [hbl]; omega) (qab.back_same _) (qab.back_new _); have h2 := h1.setPart qab.enc_len (i := i) (by rw [List.length_set]; exact hi) D[i].back 192 [.bool false] (by simp) (fun j hj => by rw [List.getElem_set_self]; exact qab.sent_same { D[i] with kept := D[i].now, hk := D[i].hn } false j hj) (fun j hj => qab.sent_new { D[i] with kept := D[i].now, hk := D[i].hn } false j hj); rw [List.set_set, Nat.zero_add] at h2; exact h2
 have HR := hid hR; clear h hb hR hbl; go_enter func85, ntmps85; go_wp2_with fail; refine T0.out.mono ?_; rintro e w1 ⟨rfl, rfl⟩; go_upto_region 6 with (first | (refine wpList_load_mid rfl 245 (.tmp 23) rfl dc (i * 193) (by first | rfl | simp [Act.eval]) (byC D[i].now) _ HL.out.now underlying245 rfl HIL.out ?_) | (refine wpList_store_mid rfl 245 (.tmp 26) (.tmp 24) rfl dc (i * 193 + 64) (byC D[i].now).toArray (by first | rfl | simp [Act.eval]) (by first | rfl | simp [Act.eval]) HTW.out HIA.out (all_oneCell_toArray qcw) ?_)); have hD := H.out.set HR.out (by simp) ((Below.heap_setCell _ _ _ _ H.out.lo.2.2).trans (qb2 _ _ _ _ _ H.out.lo.2.2)); have hO : Old2 lo p dc w1 ((w1.setCells dc (i * 193 + 64) (byC D[i].now)).setCell ⟨dc, i * 193 + 192, none⟩ (.bool false)) := by
  have h1 := (Old2.refl lo p dc w1).setsQ H.out.lo.2.1 (i * 193 + 64) (byC D[i].now); exact ⟨h1.below.setCell H.out.lo.2.1 _, fun b hb hne hnq => (Below.heap_setCell _ _ _ _ hnq).trans (h1.keep b hb hne hnq)⟩
 clear HR HTW HIA HIL n192 f192 p0 T0; generalize World.setCell _ _ _ = w2 at *; have HD := hid hD; have HO := hid hO; obtain ⟨c9, n0, nf, hp2⟩ := hD.cnt (q := 4) (by omega); clear hD hO; go_wp2_with fail; refine (qgx p 4 c9 1 w2 n0 nf hp2).mono ?_; rintro e w3 ⟨v9, rfl, rfl⟩; go_wp2_with fail; go_ret; exact ⟨rfl, HD.out.count (by omega) v9, HO.out.setP HD.out.lo.1 _ _⟩
theorem qab.fence_same (x : qab) : ∀ j, j < 64 ∨ 64 + (byC x.way).length ≤ j → ({ x with kept := x.way, hk := x.hw } : qab).enc[j]? = x.enc[j]? := fun j hj => by
 rw [qad, x.hw] at hj
 rcases hj with hj | hj
 · rw [qab.e_now _ hj, qab.e_now _ hj]
 · have e : ∀ z : qab, z.enc[j]? = (byC z.way ++ [.bool z.sent])[j - 128]? := fun z => by
    rw [qab.enc, List.append_assoc, List.getElem?_append_right (by rw [List.length_append, qad, qad, z.hn, z.hk]; omega), List.length_append, qad, qad, z.hn, z.hk]
   rw [e, e]
theorem qab.fence_new (x : qab) : ∀ j, j < (byC x.way).length → ({ x with kept := x.way, hk := x.hw } : qab).enc[64 + j]? = (byC x.way)[j]? := fun j hj => by
 rw [qad, x.hw] at hj
 rw [qab.e_kept _ hj]
def fenced (D : List qab) (k : Nat) : List qab := (D.take k).map qab.fence ++ D.drop k
theorem qdi (D : List qab) (k : Nat) : (fenced D k).length = D.length := by
 simp [fenced]; omega
theorem qqj {D : List qab} {k : Nat} (hk : k < D.length) : (fenced D k)[k]'(by rw [qdi]; exact hk) = D[k] := by
 simp only [fenced]; rw [List.getElem_append_right (by rw [List.length_map, List.length_take]; omega)]; simp [Nat.min_eq_left (Nat.le_of_lt hk)]
theorem qns {D : List qab} {k : Nat} (hk : k < D.length) : (fenced D k).set k D[k].fence = fenced D (k + 1) := by
 unfold fenced; rw [List.take_succ_eq_append_getElem hk, List.map_append, List.map_cons, List.map_nil, List.set_append_right _ _ (by rw [List.length_map, List.length_take]; omega), List.length_map, List.length_take, Nat.min_eq_left (Nat.le_of_lt hk), Nat.sub_self, List.drop_eq_getElem_cons hk, List.set_cons_zero, List.append_assoc]; rfl
theorem qt9 {x : qab} (h : x.sent = false) : x.fence = x := by unfold qab.fence; rw [if_neg (by rw [h]; decide)]
theorem qwo {x : qab} (h : x.sent = true) : x.fence = { x with kept := x.way, sent := false, hk := x.hw } := by unfold qab.fence; rw [if_pos h]
theorem qta (w : World) (lo p dc : Nat) (D : List qab) (h : qbb w lo p dc D) : Calls prog 108 #[.pointer (some ⟨p, 0, none⟩)] w (qfg lo p dc (D.map qab.fence) w) := by
 have H := hid h; obtain ⟨k0, k1, k2, k3, k4, hb⟩ := h.box; have hlen := h.len; have hp := qa0 hb; have p0 := cell_of_row w p 0 _ _ _ hb; clear h hb; go_enter func108, ntmps108; go_wp2_with fail; clear p0; go_loopw [3, 4, 12] (fun _ _ v12 wr => ∃ k : Nat, k ≤ D.length ∧ v12 = .int .i64 k ∧ qbb wr lo p dc (fenced D k) ∧ Old2 lo p dc w wr) (fun _ _ v12 _ => D.length - (intOf v12).toNat)
 case atStart => exact ⟨0, Nat.zero_le _, rfl, by simpa [fenced] using H.out, Old2.refl _ _ _ _⟩
 case round =>
  obtain ⟨k, hk, rfl, hD, hO⟩ := hrel; have HD := hid hD; have HO := hid hO; by_cases hlt : k < D.length
  · have hkl : k < (fenced D k).length := by rw [qdi]; exact hlt
    have hli := hD.line hkl; have HR0 := hid (show ∀ x : qab, x = (fenced D k)[k] → _ from fun x hx => hD.rows.setPart qab.enc_len hkl { x with kept := x.way, hk := x.hw } 64 (byC x.way) (by rw [qad, x.hw]; omega) (by rw [← hx]; exact qab.fence_same x) (qab.fence_new x)); obtain ⟨j0, j1, j2, j3, j4, hb⟩ := hD.box; have hp2 := qa0 hb; have q0 := cell_of_row wr p 0 _ _ _ hb; rw [qdi] at q0; have hlti : (k : Int) < (D.length : Int) := by omega
    have hx : D[k] = (fenced D k)[k] := (qqj hlt).symm; rw [← hx] at hli; have HSUC := hid (qns hlt); have HX := hid hx; have s0 := hli.sent; have hdl := hli.lt; have HLI := hid hli; clear hD hO hb hli hx; cases hs : D[k].sent with
    | false =>
     rw [hs] at s0; have HF := hid (qt9 hs); go_wp2_with fail; refine ⟨⟨k + 1, by omega, by go_num, ?_, HO.out⟩, by simp [intOf]; omega⟩; rw [← HSUC.out, HF.out, HX.out, List.set_getElem_self]; exact HD.out
    | true =>
     rw [hs] at s0; have HSN := hid hs; have hbl : (byC D[k].way).length = 64 := by rw [qad, D[k].hw]
     have HTW : Hid (wr.there dc (k * 193 + 64) (byC D[k].way).toArray.size) := hid (by rw [show (byC D[k].way).toArray.size = 64 from hbl]; exact HLI.out.tkept); have HIA : Hid ((prog.info? 245).map (·.size) = some (byC D[k].way).toArray.size) := hid (by rw [show (byC D[k].way).toArray.size = 64 from hbl]; exact qdg); have HIL : Hid ((prog.info? 245).map (·.size) = some (byC D[k].way).length) := hid (by rw [hbl]; exact qdg); have n192 : (wr.setCells dc (k * 193 + 64) (byC D[k].way)).cell? ⟨dc, k * 193 + 192, none⟩ = some (.bool D[k].sent) := by
      rw [World.cell?_setCells_out dc _ _ _ _ (fun _ _ => .inr (by rw [hbl]; show k * 193 + 64 + 64 ≤ k * 193 + 192; omega)), HLI.out.sent]
     have f192 : (wr.setCells dc (k * 193 + 64) (byC D[k].way)).frozen? ⟨dc, k * 193 + 192, none⟩ = false := by
      rw [World.frozen?_setCells]; exact HLI.out.fsent
     have hR : Own qab.enc 247 193 ((wr.setCells dc (k * 193 + 64) (byC D[k].way)).setCell ⟨dc, k * 193 + 192, none⟩ (.bool false)) lo (some ⟨dc, 0, none⟩) (fenced D k).length (fenced D (k + 1)) := by
      have h1 := HD.out.rows.setPart qab.enc_len hkl { D[k] with kept := D[k].way, hk := D[k].hw } 64 (byC D[k].way) (by rw [hbl]; omega) (by rw [← HX.out]; exact qab.fence_same _) (qab.fence_new _); have h2 := h1.setPart qab.enc_len (i := k) (by rw [List.length_set]; exact hkl) { D[k] with kept := D[k].way, sent := false, hk := D[k].hw } 192 [.bool false] (by simp) (fun j hj => by rw [List.getElem_set_self]; exact qab.sent_same { D[k] with kept := D[k].way, hk := D[k].hw } false j hj) (fun j hj => qab.sent_new { D[k] with kept := D[k].way, hk := D[k].hw } false j hj); rw [List.set_set, Nat.zero_add, ← qwo hs, HSUC.out] at h2; exact h2
     have hD2 := HD.out.set hR (by rw [qdi, qdi]) ((Below.heap_setCell _ _ _ _ HD.out.lo.2.2).trans (qb2 _ _ _ _ _ HD.out.lo.2.2)); have hO2 : Old2 lo p dc w ((wr.setCells dc (k * 193 + 64) (byC D[k].way)).setCell ⟨dc, k * 193 + 192, none⟩ (.bool false)) := by
      have h1 := HO.out.setsQ HD.out.lo.2.1 (k * 193 + 64) (byC D[k].way); exact ⟨h1.below.setCell HD.out.lo.2.1 _, fun b hb hne hnq => (Below.heap_setCell _ _ _ _ hnq).trans (h1.keep b hb hne hnq)⟩
     have HD2 := hid hD2; have HO2 := hid hO2; rw [hs] at n192; clear hbl hR hD2 hO2 hs; go_wp2_with (first | (refine wpList_load_mid rfl 245 (.tmp 29) rfl dc (k * 193 + 128) (by first | rfl | simp [Act.eval]) (byC D[k].way) _ HLI.out.way underlying245 rfl HIL.out ?_) | (refine wpList_store_mid rfl 245 (.tmp 32) (.tmp 30) rfl dc (k * 193 + 64) (byC D[k].way).toArray (by first | rfl | simp [Act.eval]) (by first | rfl | simp [Act.eval]) HTW.out HIA.out (all_oneCell_toArray qcw) ?_)); exact ⟨⟨k + 1, by omega, by go_num, HD2.out, HO2.out⟩, by simp [intOf]; omega⟩
  · obtain rfl : k = D.length := by omega
    have hDE : fenced D D.length = D.map qab.fence := by simp [fenced]
    rw [hDE] at hD; have HD3 := hid hD; obtain ⟨c9, n0, nf, hp2⟩ := hD.cnt (q := 3) (by omega); clear hD hO HD hDE; go_wp2_with fail; refine (qgx p 3 c9 1 wr n0 nf hp2).mono ?_; rintro e w3 ⟨v9, rfl, rfl⟩; go_wp2_with fail; go_ret; exact ⟨rfl, HD3.out.count (by omega) v9, HO.out.setP HD3.out.lo.1 _ _⟩
end
end Go.Proofs.YtecikkjbnkhhkaaGreat
