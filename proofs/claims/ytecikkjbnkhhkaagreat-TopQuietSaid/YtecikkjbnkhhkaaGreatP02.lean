/- A part of the walk. -/
import Derived.Test.YtecikkjbnkhhkaaGreatP01
import Derived.BigQuiet
import Derived.Lib.Bytealg
import Derived.WalkLawsBesides
import Derived.WalkSpells
import Derived.Deep.DeepCutAuto
import Derived.Deep.RegionHeld3
namespace Go.Proofs.YtecikkjbnkhhkaaGreat
open _root_.Go.Proofs.Tryz
set_option maxHeartbeats 4000000
set_option maxRecDepth 100000
section
open Go.RowKit
theorem qij {P : Program} (w : World) {o : Oper} {a : Act} {K : Act → World → Prop} {Q : Exit → Act → World → Prop} (d s : Operand) (t t' : TypeId)
 (ho : o.op = .call { callee := .builtin .copy, args := #[d, s], argTypes := #[t, t'] }) (v u : Value) (hd : a.eval d = v) (hs : a.eval s = u) {v' : Value} {w' : World}
 (hr : (Builtin.copy_ #[t, t'] o.type #[v, u]).run P w = .ok v' w') (h : K (a.put o.dst v') w') : o.wp P a w K Q := by
 unfold Oper.wp execOp; simp only [ho, resolve, invoke, builtin, Sem.run_bind, Sem.run_pure, Result.andThen_ok, List.map_toArray, List.map_cons, List.map_nil, hd, hs, hr]; exact h
theorem qbp {P : Program} (w : World) {ops : Array Oper} {rest : List Oper} {o : Oper} {a : Act} {Q : Exit → Act → World → Prop} (hgd : o.guard = none) (d s : Operand) (t t' : TypeId)
 (ho : o.op = .call { callee := .builtin .copy, args := #[d, s], argTypes := #[t, t'] }) (v u : Value) (hd : a.eval d = v) (hs : a.eval s = u) {v' : Value} {w' : World}
 (hr : (Builtin.copy_ #[t, t'] o.type #[v, u]).run P w = .ok v' w') (h : wpList P ops Q rest (a.put o.dst v') w') : wpList P ops Q (o :: rest) a w :=
 wpList_plain hgd fun _ hK => qij w d s t t' ho v u hd hs hr (hK _ _ h)
theorem qge {P : Program} {ops : Array Oper} {o : Oper} {a : Act} {w : World} {K : Act → World → Prop} {Q : Exit → Act → World → Prop} {E : Prop}
 (hg : o.guard = none) (d x : Operand) (dT sT : TypeId) (hop : o.op = Op.call { callee := Callee.builtin Builtin.copy, args := #[d, x], argTypes := #[dT, sT] })
 (v u : Value) (hd : a.eval d = v) (hx : a.eval x = u) {v' : Value} {w' : World} (hr : (Builtin.copy_ #[dT, sT] o.type #[v, u]).run P w = .ok v' w') (hK : K (a.put o.dst v') w') :
 if Region.wanted o (yielded ops a.tmps) = true then Oper.wp P o a w K Q else E := by
 have hw : Region.wanted o (yielded ops a.tmps) = true := by simp [Region.wanted, hg]
 rw [if_pos hw]; exact qij w d x dT sT hop v u hd hx hr hK
theorem qa2 (w : World) (o : Obj) (k : Nat) : (w.alloc o).heap[k]? = if k = w.heap.size then some o else w.heap[k]? := by
 show (w.heap.push o)[k]? = _
 rw [Array.getElem?_push]
theorem qa0 {w : World} {b : Nat} {o : Obj} (h : w.heap[b]? = some o) : b < w.heap.size := (Array.getElem?_eq_some_iff.1 h).1
def byC (l : List UInt8) : List Value := l.map fun x => .int .u8 (x.toNat : Int)
theorem qzd (l : List UInt8) : l.flatMap byE = byC l := by
 induction l with
 | nil => rfl
 | cons a l ih => rw [List.flatMap_cons, ih]; rfl
theorem qad (l : List UInt8) : (byC l).length = l.length := List.length_map _
theorem qcw {l : List UInt8} : ∀ v ∈ byC l, v.oneCell' = true := by
 intro v hv; obtain ⟨x, -, rfl⟩ := List.mem_map.1 hv; rfl
def RowB (w : World) (b : Nat) (t : TypeId) (l : List UInt8) : Prop := w.heap[b]? = some (.cells (byC l).toArray t (0, 0))
theorem RowB.cell {w : World} {b : Nat} {t : TypeId} {l : List UInt8} (h : RowB w b t l) {i : Nat} (hi : i < l.length) : w.cell? ⟨b, i, none⟩ = some (.int .u8 (l[i].toNat : Int)) := by
 rw [cell_of_row w b i _ _ _ h, List.getElem?_toArray, byC, List.getElem?_map, List.getElem?_eq_getElem hi]; rfl
theorem RowB.arr {w : World} {b : Nat} {t : TypeId} {l : List UInt8} (h : RowB w b t l) (o : Nat) : Arr byE 1 w w.heap.size (some ⟨b, o, none⟩) (l.drop o) := by
 refine .inr ⟨b, o, rfl, qa0 h, fun i hi j u hu => ?_⟩; have hj : j = 0 := by
  have := (List.getElem?_eq_some_iff.1 hu).1; rw [qbn] at this; omega
 subst hj; rw [List.length_drop] at hi; rw [Nat.mul_one, Nat.add_zero, h.cell (by omega)]; simpa [byE] using hu
theorem RowB.arr0 {w : World} {b : Nat} {t : TypeId} {l : List UInt8} (h : RowB w b t l) : Arr byE 1 w w.heap.size (some ⟨b, 0, none⟩) l := h.arr 0
theorem RowB.below {w w' : World} {B b : Nat} {t : TypeId} {l : List UInt8} (h : RowB w b t l) (hb : Below B w w') (hB : b < B) : RowB w' b t l := (hb.block b hB).trans h
theorem RowB.range {w : World} {b : Nat} {t : TypeId} {l : List UInt8} (h : RowB w b t l) : w.rangeAt b 0 (byC l) := fun j v hv => by
 rw [Nat.zero_add, cell_of_row w b j _ _ _ h, List.getElem?_toArray]
 exact hv
theorem RowB.of_own {w : World} {lo b c : Nat} {t : TypeId} {l : List UInt8} (h : RowB w b t l) (hlo : lo ≤ b) (hc : c = l.length) (hm : l.length ≤ 1000000) : Own byE t 1 w lo (some ⟨b, 0, none⟩) c l := by
 refine ⟨by omega, by unfold maxLen; omega, .inr ⟨b, 0, _, rfl, hlo, h, by simp [qad]; omega, fun j u hu => ?_⟩⟩; rw [qzd] at hu; rw [Nat.zero_add, List.getElem?_toArray]; exact hu
def qbj (l : List UInt8) (o : Nat) (m : List UInt8) : List UInt8 := l.take o ++ m ++ l.drop (o + m.length)
theorem qc1 {l m : List UInt8} {o : Nat} (h : o + m.length ≤ l.length) : (qbj l o m).length = l.length := by
 simp [qbj]; omega
theorem qbd {ops : Array Oper} {rest : List Oper} {o : Oper} {a : Act} {Q : Exit → Act → World → Prop} (w : World) (hgd : o.guard = none) (d s : Operand)
 (ho : o.op = .call { callee := .builtin .copy, args := #[d, s], argTypes := #[86, 86] }) {b off dLen dCap : Nat} (hd : a.eval d = .slice (some ⟨b, off, none⟩) dLen dCap) {A : Option Addr} {sCap : Nat} {m : List UInt8} (hs : a.eval s = .slice A m.length sCap)
 {B : Nat} (arr : Arr byE 1 w B A m) (hm : m ≠ []) {t : TypeId} {l : List UInt8} (row : RowB w b t l) (hfit : off + dLen ≤ l.length)
 (h : ∀ w', RowB w' b t (qbj l off (m.take dLen)) → (∀ k, k ≠ b → w'.heap[k]? = w.heap[k]?) → (∀ lo w0, Below lo w0 w → lo ≤ b → Below lo w0 w') → wpList prog ops Q rest (a.put o.dst (.int .i64 (Nat.min m.length dLen : Nat))) w') :
 wpList prog ops Q (o :: rest) a w := by
 rcases arr with h0 | ⟨sb, so, rfl, -, hc⟩
 · exact absurd h0 hm
 have hsrc : ∀ j v, (byC (m.take dLen))[j]? = some v → w.cell? ((⟨sb, so, none⟩ : Addr).add j) = some v := fun j v hv => by
  have hj : j < (m.take dLen).length := by have := (List.getElem?_eq_some_iff.1 hv).1; rwa [qad] at this
  have hj' : j < m.length := by rw [List.length_take] at hj; omega
  have h1 := hc j hj' 0 (.int .u8 (m[j].toNat : Int)) rfl; rw [byC, List.getElem?_map, List.getElem?_eq_getElem hj, List.getElem_take] at hv; rw [Addr.add_mid, ← hv]; simpa using h1
 have hn : (byC (m.take dLen)).length = Nat.min m.length dLen := by
  rw [qad, List.length_take]; exact Nat.min_comm _ _
 have hfit' : off + (byC (m.take dLen)).length ≤ (byC l).toArray.size := by
  rw [qad, List.length_take, List.size_toArray, qad]; omega
 have hr := run_copy_row (P := prog) w 86 86 o.type 5 b off dLen dCap ⟨sb, so, none⟩ m.length sCap (byC l).toArray t (byC (m.take dLen)) underlying86 (by
  have := qcu
  cases hq : prog.info? 5 with
  | none => rw [hq] at this; cases this
  | some i => rw [hq] at this; simp at this; simp [this]) row hn hsrc hfit' qcw
 refine qbp w hgd d s 86 86 ho _ _ hd hs hr ?_; have e : ((byC l).toArray.toList.take off ++ byC (m.take dLen) ++ (byC l).toArray.toList.drop (off + (byC (m.take dLen)).length)).toArray = (byC (qbj l off (m.take dLen))).toArray := by
  rw [qad]; simp [byC, qbj]
 rw [e, show goInt (byC (m.take dLen)).length = Value.int .i64 (Nat.min m.length dLen : Nat) by rw [hn]; rfl]; exact h _ (setRow_heap w b _ _ t (0, 0) row) (fun k hk => setRow_other w b k _ hk) (fun lo w0 hb hlo => below_setRow hb hlo _)
end
section
open Go.RowKit
def cmpB (a b : ByteArray) : Int := Lib.compareBytes a.data.toList b.data.toList
theorem qny (a b : ByteArray) (w : World) : Calls prog 127 #[.string a, .string b] w fun e w' => e = .returned (.int .i64 (cmpB a b)) ∧ w = w' := by
 go_enter func127, ntmps127; go_wp2; rw [run_callFunc_extern func172 (by kernel_rfl) (by kernel_rfl) (by kernel_rfl) (e := Extern.BytealgCompare.compare) (by kernel_rfl), Lib.run_compareString]; simp only [Result.andThen]; rw [Oper.upon_value]; go_wp2; go_ret; exact ⟨rfl, rfl⟩
theorem qtj (a b : ByteArray) (w : World) : Calls prog 96 #[.string a, .string b] w fun e w' => e = .returned (.int .i64 (cmpB a b)) ∧ w = w' := by
 go_enter func96, ntmps96; go_wp2_with (go_at_call 127; refine (qny a b _).mono ?_; rintro e w' ⟨rfl, rfl⟩); go_ret; exact ⟨rfl, rfl⟩
theorem qm8 : ∀ x : List UInt8, Op.bytesLess x x = false
 | [] => rfl
 | a :: x => by simp [Op.bytesLess, qm8 x]
theorem qp8 : ∀ x y z : List UInt8, Op.bytesLess x y = true → Op.bytesLess y z = true → Op.bytesLess x z = true
 | _, [], [], _, h2 => by simp [Op.bytesLess] at h2
 | _, _ :: _, [], _, h2 => by simp [Op.bytesLess] at h2
 | [], _, _ :: _, _, _ => by simp [Op.bytesLess]
 | _ :: _, [], _ :: _, h1, _ => by simp [Op.bytesLess] at h1
 | a :: x, b :: y, c :: z, h1, h2 => by
  simp only [Op.bytesLess, Bool.or_eq_true, decide_eq_true_eq, Bool.and_eq_true, beq_iff_eq] at h1 h2 ⊢
  rcases h1 with h1 | ⟨rfl, h1⟩ <;> rcases h2 with h2 | ⟨rfl, h2⟩
  · exact .inl (UInt8.lt_trans h1 h2)
  · exact .inl h1
  · exact .inl h2
  · exact .inr ⟨rfl, qp8 x y z h1 h2⟩
theorem qp9 : ∀ x y : List UInt8, Op.bytesLess x y = false → Op.bytesLess y x = false → x = y
 | [], [], _, _ => rfl
 | [], _ :: _, h, _ => by simp [Op.bytesLess] at h
 | _ :: _, [], _, h => by simp [Op.bytesLess] at h
 | a :: x, b :: y, h1, h2 => by
  simp only [Op.bytesLess, Bool.or_eq_false_iff, decide_eq_false_iff_not, Bool.and_eq_false_iff, beq_eq_false_iff_ne] at h1 h2
  have e : a = b := UInt8.le_antisymm (UInt8.not_lt.1 h2.1) (UInt8.not_lt.1 h1.1)
  subst e
  rw [qp9 x y (by simpa using h1.2) (by simpa using h2.2)]
theorem qy9 : ∀ x y : List UInt8, Lib.compareBytes x y = if Op.bytesLess x y = true then -1 else if Op.bytesLess y x = true then 1 else 0
 | [], [] => rfl
 | [], _ :: _ => rfl
 | _ :: _, [] => rfl
 | a :: x, b :: y => by
  unfold Lib.compareBytes
  simp only [Op.bytesLess, Bool.or_eq_true, decide_eq_true_eq, Bool.and_eq_true, beq_iff_eq]
  by_cases h1 : a < b
  · simp [h1]
  · by_cases h2 : b < a
    · have : a ≠ b := fun e => by subst e; exact UInt8.lt_irrefl _ h2
      simp [h1, h2, this]
    · have e : a = b := UInt8.le_antisymm (UInt8.not_lt.1 h2) (UInt8.not_lt.1 h1)
      subst e
      simp [h1, qy9 x y]
theorem qbu {a b : ByteArray} (h : a.toList = b.toList) : a = b := by
 rw [Lib.toList_data, Lib.toList_data] at h; exact ByteArray.ext (Array.toList_inj.1 h)
def kl (a b : ByteArray) : Bool := Op.bytesLess a.toList b.toList
theorem qdh (a : ByteArray) : kl a a = false := qm8 _
theorem qeh {a b c : ByteArray} (h : kl a b = true) (k : kl b c = true) : kl a c = true := qp8 _ _ _ h k
theorem qp0 {a b : ByteArray} (h : kl a b = false) (k : kl b a = false) : a = b := qbu (qp9 _ _ h k)
theorem qei {a b : ByteArray} (h : kl a b = true) : kl b a = false := by
 cases e : kl b a with
 | false => rfl
 | true => have := qeh h e; rw [qdh] at this; cases this
theorem qsr {a b : ByteArray} (h : kl a b = true) : a ≠ b := fun e => by subst e; rw [qdh] at h; cases h
theorem qhw (a b : ByteArray) : cmpB a b = if kl a b = true then -1 else if kl b a = true then 1 else 0 := by
 unfold cmpB kl; rw [qy9, Lib.toList_data, Lib.toList_data]
end
section
open Go.RowKit
structure qa3 where
 key : ByteArray
 id : Nat
 ver : Nat
 line : Int
 cls : Int
 deriving DecidableEq
def qa3.enc (x : qa3) : List Value := [.string x.key, .int .u64 (x.id : Int), .int .u64 (x.ver : Int), .int .i64 x.line, .int .i64 x.cls]
theorem qa3.enc_len (x : qa3) : x.enc.length = 5 := rfl
theorem qa3.enc_one (x : qa3) : ∀ u ∈ x.enc, u.oneCell' = true := by
 intro u hu; simp only [qa3.enc, List.mem_cons, List.not_mem_nil, or_false] at hu; rcases hu with rfl | rfl | rfl | rfl | rfl <;> rfl
def qa3.val (x : qa3) : Value := .agg x.enc.toArray
def qak : qa3 := ⟨ByteArray.empty, 0, 0, 0, 0⟩
structure qbo (w : World) (lo p : Nat) (A : Option Addr) (c : Nat) (L : List qa3) (at' n : Nat) : Prop where
 box : w.heap[p]? = some (.cells #[.slice A L.length c, .int .i64 (at' : Int), .int .i64 (n : Int)] 210 (0, 0))
 rows : Own qa3.enc 85 5 w lo A c L
 lo : lo ≤ p
 fit : n ≤ L.length ∧ (L.length = 0 ∨ at' < L.length)
 nil : L = [] → A = none ∧ c = 0 ∧ at' = 0
theorem qnq (w : World) : Calls prog 76 #[] w fun e w' => e = .returned (.pointer (some ⟨w.heap.size, 0, none⟩)) ∧ qbo w' w.heap.size w.heap.size none 0 [] 0 0 ∧ Below w.heap.size w w' := by
 go_enter func76, ntmps76; go_wp2_with fail; go_ret; exact ⟨rfl, ⟨(qa2 _ _ _).trans (if_pos rfl), Own.none_, Nat.le_refl _, by simp, fun _ => ⟨rfl, rfl, rfl⟩⟩, (Below.refl _ _).alloc (Nat.le_refl _) _⟩
theorem Arr.link {w : World} {B : Nat} {A : Option Addr} {l : List qa3} (h : Arr qa3.enc 5 w B A l) {i : Nat} (hi : i < l.length) : ∃ b off, A = some ⟨b, off, none⟩ ∧ b < B ∧ w.cell? ⟨b, off + i * 5, none⟩ = some (.string l[i].key) ∧ w.cell? ⟨b, off + i * 5 + 1, none⟩ = some (.int .u64 (l[i].id : Int)) ∧ w.cell? ⟨b, off + i * 5 + 2, none⟩ = some (.int .u64 (l[i].ver : Int)) ∧ w.cell? ⟨b, off + i * 5 + 3, none⟩ = some (.int .i64 l[i].line) ∧ w.cell? ⟨b, off + i * 5 + 4, none⟩ = some (.int .i64 l[i].cls) := by
 rcases h with rfl | ⟨b, off, rfl, hB, hc⟩
 · simp at hi
 · exact ⟨b, off, rfl, hB, by simpa using hc i hi 0 _ rfl, hc i hi 1 _ rfl, hc i hi 2 _ rfl, hc i hi 3 _ rfl, hc i hi 4 _ rfl⟩
def qed (x : qa3) (ok : Bool) (w : World) (e : Ending) (w' : World) : Prop := e = .returned (.tuple #[x.val, .bool ok]) ∧ Below w.heap.size w w'
theorem qn4 (w : World) (lo p : Nat) (A : Option Addr) (c : Nat) (L : List qa3) (at' : Nat) (h : qbo w lo p A c L at' 0) : Calls prog 311 #[.pointer (some ⟨p, 0, none⟩)] w (qed qak false w) := by
 have hp := qa0 h.box; have p2 := cell_of_row w p 2 _ _ _ h.box; clear h; go_enter func311, ntmps311; go_wp2_with fail; refine bodyPost_ret (v := .tuple #[qak.val, .bool false]) (by simp [results, results311, go_sem, qak, qa3.val, qa3.enc]; rfl) rfl ⟨rfl, (Below.refl _ _).alloc (Nat.le_refl _) _⟩
theorem qgf (w : World) (lo p : Nat) (A : Option Addr) (c : Nat) (L : List qa3) (at' n : Nat) (h : qbo w lo p A c L at' n) (hn : ¬ n = 0) (ha : at' < L.length) : Calls prog 311 #[.pointer (some ⟨p, 0, none⟩)] w (qed L[at'] true w) := by
 have hp := qa0 h.box; have p0 := cell_of_row w p 0 _ _ _ h.box; have p1 := cell_of_row w p 1 _ _ _ h.box; have p2 := cell_of_row w p 2 _ _ _ h.box; obtain ⟨b, off, rfl, hB, c0, c1, c2, c3, c4⟩ := (h.rows.arr qa3.enc_len).link ha; have hne : ((n : Int) == 0) = false := by rw [beq_eq_false_iff_ne]; omega
 have hai : (at' : Int) < (L.length : Int) := by omega
 have HX := hid (show L[at'].val = .agg #[.string L[at'].key, .int .u64 (L[at'].id : Int), .int .u64 (L[at'].ver : Int), .int .i64 L[at'].line, .int .i64 L[at'].cls] from rfl); clear h; go_enter func311, ntmps311; go_wp2_with fail; go_region; all_goals
  go_wp2_with fail; refine bodyPost_ret (v := .tuple #[L[at'].val, .bool true]) (by rw [HX.out]; simp [results, results311, go_sem]) rfl ⟨rfl, by first | exact ((Below.refl _ _).alloc (Nat.le_refl _) _).drew | exact (Below.refl _ _).drew.alloc (Nat.le_refl _) _⟩
end
section
open Go.RowKit
theorem qgi (w : World) (p : Nat) (x : qa3) (ok : Bool) (hp : p < w.heap.size) (T : ∀ W, Below w.heap.size w W → Calls prog 311 #[.pointer (some ⟨p, 0, none⟩)] W (qed x ok W)) : Calls prog 251 #[.pointer (some ⟨p, 0, none⟩)] w (qed x ok w) := by
 have HT := hid T; have HX := hid (show x.val = .agg #[.string x.key, .int .u64 (x.id : Int), .int .u64 (x.ver : Int), .int .i64 x.line, .int .i64 x.cls] from rfl); clear T; go_enter func251, ntmps251; go_upto_region 1 with fail; generalize hw1 : World.alloc w _ = w1; have R1 : w1.heap[w.heap.size]? = some (.cells qak.enc.toArray 85 (0, 0)) := by rw [← hw1]; exact (qa2 _ _ _).trans (if_pos rfl)
 have b1 : Below w.heap.size w w1 := by rw [← hw1]; exact (Below.refl _ _).alloc (Nat.le_refl _) _
 have HR1 := hid R1; have HB1 := hid b1; have hl1 := qa0 R1; have hp1 : p < w1.heap.size := Nat.lt_of_lt_of_le hp b1.size; clear hw1 R1 b1; go_wp2_with fail; refine (HT.out w1 HB1.out).mono ?_; rintro e w2 ⟨rfl, b2⟩; rw [HX.out]; have R2 := (b2.block _ hl1).trans HR1.out; have HB2 := hid (HB1.out.trans (b2.mono HB1.out.size)); have q0 := cell_of_row w2 _ 0 _ _ _ R2; have q1 := cell_of_row w2 _ 1 _ _ _ R2; have q2 := cell_of_row w2 _ 2 _ _ _ R2; have q3 := cell_of_row w2 _ 3 _ _ _ R2; have q4 := cell_of_row w2 _ 4 _ _ _ R2; have f0 := frozen_of_row w2 _ 0 _ _ R2; have f1 := frozen_of_row w2 _ 1 _ _ R2; have f2 := frozen_of_row w2 _ 2 _ _ R2; have f3 := frozen_of_row w2 _ 3 _ _ R2; have f4 := frozen_of_row w2 _ 4 _ _ R2; have hl2 := qa0 R2; simp only [qa3.enc, List.getElem?_toArray, List.getElem?_cons_zero, List.getElem?_cons_succ] at q0 q1 q2 q3 q4; clear R2 b2; go_wp2_with fail; refine bodyPost_ret (v := .tuple #[x.val, .bool ok]) (by rw [HX.out]; simp [results, results251, go_sem, q0, q1, q2, q3, q4]) rfl ⟨rfl, ?_⟩; have h0 : w.heap.size ≤ w.heap.size := Nat.le_refl _; first
  | exact ((((HB2.out.setCell h0 _).setCell h0 _).setCell h0 _).setCell h0 _).setCell h0 _
  | exact (HB2.out.setCell h0 _)
end
section
open Go.RowKit
def zeros (n : Nat) : List UInt8 := List.replicate n 0
theorem qf1 : (prog.info? 251).map (·.size) = some 64 := by kernel_rfl
def qcd (m : List UInt8) : List UInt8 := putL (qbj (zeros 64) 0 m) 9 (sumL 0 m) 4
theorem qah {P : Program} {fn : Func} {p : Tmp} {ty : TypeId} (h : fn.results = #[.cell p ty]) (tmps : Array Value) (w : World) (b : Nat) (cs : List Value) (d : TypeDesc)
 (hp : tmps.getD p undef = .pointer (some ⟨b, 0, none⟩)) (hc : w.rangeAt b 0 cs) (hu : P.underlying ty = some d) (hd : d.isRow = true) (hi : (P.info? ty).map (·.size) = some cs.length) : (results fn tmps).run P w = .ok (.agg cs.toArray) w := by
 have hp' : tmps[p]?.getD undef = .pointer (some ⟨b, 0, none⟩) := by simpa using hp
 simp [results, h, hp', asAddr, run_loadVar_mid w b 0 ty cs d hc hu hd hi]
theorem qae {B b : Nat} (hb : B ≤ b) : ∀ (vs : List Value) (o : Nat) {a : World} (w : World), Below B a w → Below B a (w.setCells b o vs)
 | [], _, _, _, h => h
 | v :: r, o, _, _, h => qae hb r (o + 1) _ (h.setCell (p := ⟨b, o, none⟩) hb v)
theorem qiq (m : List UInt8) (A : Option Addr) (c : Nat) (w : World) (hA : Arr byE 1 w w.heap.size A m) (hm : m.length = 9) (hc : m.length ≤ c) (hmax : c ≤ 9223372036854775807) :
 Calls prog 155 #[.slice A m.length c] w fun e w' => e = .returned (.agg (byC (qcd m)).toArray) ∧ Below w.heap.size w w' := by
 have HA := hid hA; have HM := hid hm; have HC := hid (And.intro hc hmax); have hne : m ≠ [] := by intro h; rw [h] at hm; cases hm
 have HNE := hid hne; clear hA hm hc hmax hne; go_enter func155, ntmps155; go_upto_region 2 with fail; generalize hw2 : World.alloc (World.alloc w _) _ = w2; have Z0 : RowB w2 w.heap.size 251 (zeros 64) := by rw [← hw2]; exact (Below.heap_alloc _ _ _ (by simp)).trans ((qa2 _ _ _).trans (if_pos rfl))
 have Z1 : RowB w2 (w.heap.size + 1) 251 (zeros 64) := by rw [← hw2]; exact (qa2 _ _ _).trans (by rw [if_pos (by simp)]; rfl)
 have b2 : Below w.heap.size w w2 := by rw [← hw2]; exact ((Below.refl _ _).alloc (Nat.le_refl _) _).alloc (by simp) _
 have HZ0 := hid Z0; have HZ1 := hid Z1; clear hw2 Z0 Z1; go_wp2_with (refine qbd (m := m) (A := A) w2 rfl (.tmp 6) (.tmp 7) rfl (by first | rfl | simp [Act.eval]) (by first | rfl | simp [Act.eval]) (HA.out.below b2) HNE.out HZ1.out (by decide) ?_; intro w3 R3 off3 bel3); have HR3 := hid R3; have B3 : Below w.heap.size w w3 := bel3 _ _ b2 (by omega); have Z3 : RowB w3 w.heap.size 251 (zeros 64) := (off3 _ (by omega)).trans HZ0.out; have HB3 := hid B3; have HZ3 := hid Z3; rw [List.take_of_length_le (by have := HM.out; omega)] at HR3; have hov : (qbj (zeros 64) 0 m).length = 64 := qc1 (by rw [HM.out]; decide); have HOV := hid hov; have hl3 := qa0 HR3.out; have l3 : w.heap.size ≤ w3.heap.size := B3.size; have HSUM := hid (qmv (c := 0) (by omega) m); have TP : Hid (∀ W, Below w3.heap.size w3 W → Calls prog 154 #[.slice (some ⟨w.heap.size + 1, 0, none⟩) 64 64, .int .i64 9, .int .i64 4, .int .u64 (sumL 0 m : Nat)] W (qyf (qcd m) W)) := hid fun W hW => by
  have t := qgp (qbj (zeros 64) 0 m) (some ⟨w.heap.size + 1, 0, none⟩) 64 9 4 (sumL 0 m) W (((HR3.out.arr0).below hW).more hW.size) (by omega) (by omega) (by rw [hov]; omega) (by rw [hov]; omega) (by have := HSUM.out; omega) (by have := HSUM.out; omega); rw [hov] at t; exact t
 have hsl : (qcd m).length = 64 := by rw [qcd, qb7, hov]
 have HSL := hid hsl; have i1 : IntKind.u64.wrap ((sumL 0 m : Nat) : Int) = ((sumL 0 m : Nat) : Int) := by rw [IntKind.wrap_u64]; have := HSUM.out; omega
 clear R3 off3 bel3 b2 Z3 hov B3 hsl; go_upto_region 3 with fail; simp only [Act.put, List.setIfInBounds_toArray, List.set_cons_succ, List.set_cons_zero]; go_cut [4, 5] (fun v4 _ wx => ∃ A4 c4, v4 = .slice A4 64 c4 ∧ Own byE 5 1 wx w3.heap.size A4 c4 (qcd m) ∧ Below w3.heap.size w3 wx)
 case first =>
  go_region_held3 (fun _ => True) (trivial) (first | (go_at_call 211; refine (qrr m A c _ ((HA.out.below (show Below w.heap.size w _ from (HB3.out.drew))).more (show Below w.heap.size w _ from HB3.out.drew).size) HC.out.1 HC.out.2).mono ?_; rintro e wS ⟨rfl, bS⟩; have stS : Below w3.heap.size w3 wS := Below.trans (Below.refl _ _).drew (bS.mono (Nat.le_refl _))) | (go_at_call 154; refine (TP.out _ stS).mono ?_; rintro e wP ⟨A4, c4, rfl, hownP, bP⟩) | fail); all_goals
   go_wp2_with fail; go_meet; exact ⟨A4, c4, by rw [HSL.out], Own.lower hownP stS.size, stS.trans (bP.mono stS.size)⟩
 case rest =>
  obtain ⟨A4, c4, rfl, hown, b4⟩ := hcut; obtain ⟨w4, hw4⟩ : ∃ x, x = wc := ⟨_, rfl⟩; subst hw4; have Z4 := HZ3.out.below b4 (by omega); have Z5 := HR3.out.below b4 hl3; have HSL64 := hid (show (qcd m) ≠ [] by intro h; rw [h] at HSL; exact absurd HSL.out (by decide)); have HARR := hid (hown.arr qbn); have HZ4 := hid Z4; have HZ5 := hid Z5; have HB4 := hid b4; clear hown Z4 Z5 b4 i1 TP; have hs64 : (qcd m).length = 64 := HSL.out; go_upto_region 5 with (refine qbd (m := qcd m) (A := A4) w4 rfl (.tmp 17) (.tmp 18) rfl (by first | rfl | simp [Act.eval]) (by rw [hs64]; first | rfl | simp [Act.eval]) HARR.out HSL64.out HZ5.out (by rw [qc1 (by rw [HM.out]; decide)]; decide) ?_; intro w5 R5 off5 bel5); have e5 : qbj (qbj (zeros 64) 0 m) 0 ((qcd m).take 64) = qcd m := by
   rw [List.take_of_length_le (by omega), qbj, List.take_zero, List.nil_append, List.drop_of_length_le (by rw [qc1 (by rw [HM.out]; decide), hs64]; decide), List.append_nil]
  rw [e5] at R5; have HR5 := hid R5; have B5 := bel5 _ _ (HB3.out.trans (HB4.out.mono l3)) (by omega); have Z5 : RowB w5 w.heap.size 251 (zeros 64) := (off5 _ (by omega)).trans HZ4.out; have HZ5' := hid Z5; have HB5 := hid B5; have hl5 := qa0 R5; have hsz : (byC (qcd m)).length = 64 := by rw [qad]; exact hs64
  have HSZ := hid hsz; have HIR : Hid ((prog.info? 251).map (·.size) = some (byC (qcd m)).length) := hid (by rw [hsz]; exact qf1); have HTH : Hid (w5.there w.heap.size 0 64) := hid fun j hj => by
   have h1 := HZ5'.out.cell (i := j) (by simpa [zeros] using hj); rw [Nat.zero_add, h1]; exact ⟨rfl, frozen_of_row w5 _ _ _ _ HZ5'.out⟩
  have HTA : Hid (w5.there w.heap.size 0 (byC (qcd m)).toArray.size) := hid (by rw [show (byC (qcd m)).toArray.size = 64 from hsz]; exact HTH.out); have HIA : Hid ((prog.info? 251).map (·.size) = some (byC (qcd m)).toArray.size) := hid HIR.out; clear R5 off5 bel5 B5 Z5 e5 hs64 hsz; simp only [Act.put, List.setIfInBounds_toArray, List.set_cons_succ, List.set_cons_zero]; go_wp2_with (first | (refine wpList_load_mid rfl 251 (.tmp 3) rfl (w.heap.size + 1) 0 (by first | rfl | simp [Act.eval]) (byC (qcd m)) _ HR5.out.range underlying251 rfl HIR.out ?_) | (refine wpList_store_mid rfl 251 (.tmp 2) (.tmp 20) rfl w.heap.size 0 (byC (qcd m)).toArray (by first | rfl | simp [Act.eval]) (by first | rfl | simp [Act.eval]) HTA.out HIA.out (all_oneCell_toArray qcw) ?_)); refine bodyPost_ret (v := .agg (byC (qcd m)).toArray) ?_ rfl ⟨rfl, ?_⟩
  · exact qah results155 _ _ w.heap.size _ _ rfl (World.rangeAt_setCells_same w5 w.heap.size 0 (byC (qcd m)) (by rw [HSZ.out]; exact HTH.out)) underlying251 rfl HIR.out
  · exact qae (Nat.le_refl _) _ _ _ HB5.out
end
section
open Go.RowKit
theorem RowB.there {w : World} {b : Nat} {t : TypeId} (h : RowB w b t (zeros 64)) : w.there b 0 64 := fun j hj => by
 have h1 := h.cell (i := j) (by simpa [zeros] using hj)
 rw [Nat.zero_add, h1]
 exact ⟨rfl, frozen_of_row w _ _ _ _ h⟩
def qip : List UInt8 := [4, 70, 85, 83, 69, 0, 0, 0, 0]
def qc0 (v : Nat) : List UInt8 := qcd (putL qip 5 v 4)
theorem ql3 {m : List UInt8} (hm : m.length = 9) : (qcd m).length = 64 := by rw [qcd, qb7, qc1 (by rw [hm]; decide)]; rfl
theorem qc4 (v : Nat) : (qc0 v).length = 64 := ql3 (by rw [qb7]; rfl)
theorem qrq (v : Nat) (w : World) (hv : v < 4294967296) : Calls prog 138 #[.int .i64 (v : Int)] w fun e w' => e = .returned (.agg (byC (qc0 v)).toArray) ∧ Below w.heap.size w w' := by
 have HV := hid hv; have i1 : IntKind.u64.wrap (v : Int) = (v : Int) := by rw [IntKind.wrap_u64]; omega
 have hmlen : (putL qip 5 v 4).length = 9 := by rw [qb7]; rfl
 have HML := hid hmlen; clear hmlen hv; go_enter func138, ntmps138; go_upto_region 1 with fail; generalize hw1 : World.alloc w _ = w1; have Z1 : RowB w1 w.heap.size 251 (zeros 64) := by rw [← hw1]; exact (qa2 _ _ _).trans (if_pos rfl)
 have b1 : Below w.heap.size w w1 := by rw [← hw1]; exact (Below.refl _ _).alloc (Nat.le_refl _) _
 have HZ1 := hid Z1; have HB1 := hid b1; have hl1 := qa0 Z1; clear hw1 Z1 b1; go_wp2_with fail; generalize hw2 : World.alloc w1 _ = w2; have R2 : RowB w2 w1.heap.size 5 qip := by rw [← hw2]; exact (qa2 _ _ _).trans (if_pos rfl)
 have b2 : Below w1.heap.size w1 w2 := by rw [← hw2]; exact (Below.refl _ _).alloc (Nat.le_refl _) _
 have HR2 := hid R2; have HB2 := hid (HB1.out.trans (b2.mono HB1.out.size)); have HZ2 := hid (HZ1.out.below b2 hl1); have l12 := b2.size; clear hw2 R2 b2; refine (qgp qip (some ⟨w1.heap.size, 0, none⟩) 9 5 4 v w2 HR2.out.arr0 (by omega) (by omega) (by decide) (by decide) (by have := HV.out; omega) (by have := HV.out; omega)).mono ?_; rintro e w3 ⟨A3, c3, rfl, hown, b3⟩; rw [HML.out]; have HO3 := hid hown; have HB3 := hid (HB2.out.trans (b3.mono HB2.out.size)); have HZ3 := hid (HZ2.out.below b3 (Nat.lt_of_lt_of_le hl1 l12)); clear hown b3 i1; go_wp2_with fail; have T4 := qiq (putL qip 5 v 4) A3 c3 w3 (HO3.out.arr qbn) HML.out HO3.out.len HO3.out.max; rw [HML.out] at T4; refine T4.mono ?_; rintro e w4 ⟨rfl, b4⟩; have HB4 := hid (HB3.out.trans (b4.mono HB3.out.size)); have hz3 := qa0 HZ3.out; have HZ4 := hid (HZ3.out.below b4 hz3); have HSZ := hid (show (byC (qc0 v)).length = 64 by rw [qad, qc4]); have HTH : Hid (w4.there w.heap.size 0 (byC (qc0 v)).toArray.size) := hid (by
  rw [show (byC (qc0 v)).toArray.size = 64 from HSZ.out]
  exact HZ4.out.there)
 have HIA : Hid ((prog.info? 251).map (·.size) = some (byC (qc0 v)).toArray.size) := hid (by rw [show (byC (qc0 v)).toArray.size = 64 from HSZ.out]; exact qf1); clear b4 T4; rw [show byC (qcd (putL qip 5 v 4)) = byC (qc0 v) from rfl]; go_wp2_with (refine wpList_store_mid rfl 251 (.tmp 2) (.tmp 13) rfl w.heap.size 0 (byC (qc0 v)).toArray (by first | rfl | simp [Act.eval]) (by first | rfl | simp [Act.eval]) HTH.out HIA.out (all_oneCell_toArray qcw) ?_); refine bodyPost_ret (v := .agg (byC (qc0 v)).toArray) ?_ rfl ⟨rfl, ?_⟩
 · exact qah results138 _ _ w.heap.size _ _ rfl (World.rangeAt_setCells_same w4 w.heap.size 0 (byC (qc0 v)) HTH.out) underlying251 rfl HIA.out
 · exact qae (Nat.le_refl _) _ _ _ HB4.out
def qja : List UInt8 := [3, 0, 0, 0, 0, 0, 0, 0, 0]
def qc3 (v : Nat) : List UInt8 := qcd (putL qja 1 v 8)
theorem qc7 (v : Nat) : (qc3 v).length = 64 := ql3 (by rw [qb7]; rfl)
theorem qtl (v : Nat) (w : World) (hv : v < 18446744073709551616) : Calls prog 122 #[.int .u64 (v : Int)] w fun e w' => e = .returned (.agg (byC (qc3 v)).toArray) ∧ Below w.heap.size w w' := by
 have HV := hid hv; have hmlen : (putL qja 1 v 8).length = 9 := by rw [qb7]; rfl
 have HML := hid hmlen; clear hmlen hv; go_enter func122, ntmps122; go_upto_region 1 with fail; generalize hw1 : World.alloc w _ = w1; have Z1 : RowB w1 w.heap.size 251 (zeros 64) := by rw [← hw1]; exact (qa2 _ _ _).trans (if_pos rfl)
 have b1 : Below w.heap.size w w1 := by rw [← hw1]; exact (Below.refl _ _).alloc (Nat.le_refl _) _
 have HZ1 := hid Z1; have HB1 := hid b1; have hl1 := qa0 Z1; clear hw1 Z1 b1; go_wp2_with fail; generalize hw2 : World.alloc w1 _ = w2; have R2 : RowB w2 w1.heap.size 5 qja := by rw [← hw2]; exact (qa2 _ _ _).trans (if_pos rfl)
 have b2 : Below w1.heap.size w1 w2 := by rw [← hw2]; exact (Below.refl _ _).alloc (Nat.le_refl _) _
 have HR2 := hid R2; have HB2 := hid (HB1.out.trans (b2.mono HB1.out.size)); have HZ2 := hid (HZ1.out.below b2 hl1); have l12 := b2.size; clear hw2 R2 b2; refine (qgp qja (some ⟨w1.heap.size, 0, none⟩) 9 1 8 v w2 HR2.out.arr0 (by omega) (by omega) (by decide) (by decide) (by have := HV.out; omega) (by have := HV.out; omega)).mono ?_; rintro e w3 ⟨A3, c3, rfl, hown, b3⟩; rw [HML.out]; have HO3 := hid hown; have HB3 := hid (HB2.out.trans (b3.mono HB2.out.size)); have HZ3 := hid (HZ2.out.below b3 (Nat.lt_of_lt_of_le hl1 l12)); clear hown b3; go_wp2_with fail; have T4 := qiq (putL qja 1 v 8) A3 c3 w3 (HO3.out.arr qbn) HML.out HO3.out.len HO3.out.max; rw [HML.out] at T4; refine T4.mono ?_; rintro e w4 ⟨rfl, b4⟩; have HB4 := hid (HB3.out.trans (b4.mono HB3.out.size)); have hz3 := qa0 HZ3.out; have HZ4 := hid (HZ3.out.below b4 hz3); have HSZ := hid (show (byC (qc3 v)).length = 64 by rw [qad, qc7]); have HTH : Hid (w4.there w.heap.size 0 (byC (qc3 v)).toArray.size) := hid (by
  rw [show (byC (qc3 v)).toArray.size = 64 from HSZ.out]
  exact HZ4.out.there)
 have HIA : Hid ((prog.info? 251).map (·.size) = some (byC (qc3 v)).toArray.size) := hid (by rw [show (byC (qc3 v)).toArray.size = 64 from HSZ.out]; exact qf1); clear b4 T4; rw [show byC (qcd (putL qja 1 v 8)) = byC (qc3 v) from rfl]; go_wp2_with (refine wpList_store_mid rfl 251 (.tmp 2) (.tmp 12) rfl w.heap.size 0 (byC (qc3 v)).toArray (by first | rfl | simp [Act.eval]) (by first | rfl | simp [Act.eval]) HTH.out HIA.out (all_oneCell_toArray qcw) ?_); refine bodyPost_ret (v := .agg (byC (qc3 v)).toArray) ?_ rfl ⟨rfl, ?_⟩
 · exact qah results122 _ _ w.heap.size _ _ rfl (World.rangeAt_setCells_same w4 w.heap.size 0 (byC (qc3 v)) HTH.out) underlying251 rfl HIA.out
 · exact qae (Nat.le_refl _) _ _ _ HB4.out
end
section
open Go.RowKit
theorem RowB.set {w : World} {b : Nat} {t : TypeId} {l0 l : List UInt8} (h : RowB w b t l0) (hl : l.length = l0.length) : RowB (w.setCells b 0 (byC l)) b t l := by
 obtain ⟨cur, h1, h2, -, -, h5⟩ := qax (byC l) 0 w _ h (by rw [qad, List.size_toArray, qad]; omega); have e : cur = (byC l).toArray := by
  apply Array.ext_getElem?; intro i; by_cases hi : i < l.length
  · have hi' : i < (byC l).length := by rw [qad]; exact hi
    have := h5 i (byC l)[i] (List.getElem?_eq_getElem hi'); rw [Nat.zero_add] at this; rw [this, List.getElem?_toArray, List.getElem?_eq_getElem hi']
  · rw [Array.getElem?_eq_none (by rw [h2, List.size_toArray, qad]; omega), Array.getElem?_eq_none (by rw [List.size_toArray, qad]; omega)]
 unfold RowB; rw [h1, e]
theorem qb2 (b : Nat) : ∀ (vs : List Value) (o : Nat) (w : World) (k : Nat), k ≠ b → (w.setCells b o vs).heap[k]? = w.heap[k]?
 | [], _, _, _, _ => rfl
 | v :: r, o, w, k, h => by rw [World.setCells, qb2 b r (o + 1) _ k h, Below.heap_setCell _ _ _ _ h]
def qmh (l : List UInt8) (w : World) (v : Value) (w' : World) : Prop := ∃ b, v = .slice (some ⟨b, 0, none⟩) 64 64 ∧ RowB w' b 251 l ∧ w.heap.size ≤ b ∧ Below w.heap.size w w'
theorem qqu (v : Nat) (w : World) (hv : v < 18446744073709551616) : Calls prog 106 #[.int .u64 (v : Int)] w fun e w' => ∃ x, e = .returned x ∧ qmh (qc3 v) w x w' := by
 go_enter func106, ntmps106; go_wp2_with fail; refine (qtl v w hv).mono ?_; rintro e w1 ⟨rfl, b1⟩; have HB1 := hid b1; have hs1 := b1.size; have HSZ := hid (show (byC (qc3 v)).toArray.size = 64 by rw [List.size_toArray, qad, qc7]); have HIA : Hid ((prog.info? 251).map (·.size) = some (byC (qc3 v)).toArray.size) := hid (by rw [HSZ.out]; exact qf1); clear b1; go_upto_region 2 with (refine wpList_store_mid rfl 251 (.tmp 3) (.tmp 5) rfl w1.heap.size 0 (byC (qc3 v)).toArray (by first | rfl | simp [Act.eval]) (by first | rfl | simp [Act.eval]) (by rw [HSZ.out]; exact RowB.there (t := 251) ((qa2 _ _ _).trans (if_pos rfl))) HIA.out (all_oneCell_toArray qcw) ?_); generalize hw2 : World.setCells _ _ _ _ = w2; have R2 : RowB w2 w1.heap.size 251 (qc3 v) := by rw [← hw2]; exact RowB.set (l0 := zeros 64) ((qa2 _ _ _).trans (if_pos rfl)) (by rw [qc7]; rfl)
 have b2 : Below w1.heap.size w1 w2 := by rw [← hw2]; exact qae (Nat.le_refl _) _ _ _ ((Below.refl _ _).alloc (Nat.le_refl _) _)
 have HR2 := hid R2; have HB2 := hid b2; clear hw2 R2 b2 HIA HSZ; simp only [Act.put]; go_wp2_with fail; go_ret; exact ⟨_, rfl, w1.heap.size, rfl, HR2.out, hs1, HB1.out.trans (HB2.out.mono hs1)⟩
theorem qpu (v : Nat) (w : World) (h1 : 10 ≤ v) (h2 : v ≤ 258) : Calls prog 104 #[.int .i64 (v : Int)] w fun e w' => ∃ x, e = .returned (.tuple #[x, .int .i64 0]) ∧ qmh (qc0 v) w x w' := by
 have g1 : ¬ (v : Int) < 10 := by omega
 have g2 : ¬ (258 : Int) < (v : Int) := by omega
 go_enter func104, ntmps104; go_wp2_with fail; refine (qrq v w (by omega)).mono ?_; rintro e w1 ⟨rfl, b1⟩; have HB1 := hid b1; have hs1 := b1.size; have HSZ := hid (show (byC (qc0 v)).toArray.size = 64 by rw [List.size_toArray, qad, qc4]); have HIA : Hid ((prog.info? 251).map (·.size) = some (byC (qc0 v)).toArray.size) := hid (by rw [HSZ.out]; exact qf1); clear b1 g1 g2; go_upto_region 4 with (refine wpList_store_mid rfl 251 (.tmp 4) (.tmp 12) rfl w1.heap.size 0 (byC (qc0 v)).toArray (by first | rfl | simp [Act.eval]) (by first | rfl | simp [Act.eval]) (by rw [HSZ.out]; exact RowB.there (t := 251) ((qa2 _ _ _).trans (if_pos rfl))) HIA.out (all_oneCell_toArray qcw) ?_); generalize hw2 : World.setCells _ _ _ _ = w2; have R2 : RowB w2 w1.heap.size 251 (qc0 v) := by rw [← hw2]; exact RowB.set (l0 := zeros 64) ((qa2 _ _ _).trans (if_pos rfl)) (by rw [qc4]; rfl)
 have b2 : Below w1.heap.size w1 w2 := by rw [← hw2]; exact qae (Nat.le_refl _) _ _ _ ((Below.refl _ _).alloc (Nat.le_refl _) _)
 have HR2 := hid R2; have HB2 := hid b2; clear hw2 R2 b2 HIA HSZ; simp only [Act.put]; go_wp2_with fail; go_ret2; exact ⟨_, rfl, w1.heap.size, rfl, HR2.out, hs1, HB1.out.trans (HB2.out.mono hs1)⟩
theorem ql1 (n : Nat) (w : World) (h1 : 10 ≤ n) (h2 : n ≤ 258) : Calls prog 72 #[.int .i64 (n : Int)] w fun e w' => e = .returned (.int .i64 (((n - 2) / 8 : Nat) : Int)) ∧ w' = w := by
 have g1 : ¬ (n : Int) < 10 := by omega
 have g2 : min (n : Int) 258 = n := by omega
 have g3 : IntKind.i64.wrap ((n : Int) - 2) = (n : Int) - 2 := Go.IntWalk.i64_in _ (by omega); have g4 : ((n : Int) - 2).tdiv 8 = (((n - 2) / 8 : Nat) : Int) := by rw [Int.tdiv_eq_ediv_of_nonneg (by omega)]; omega
 go_enter func72, ntmps72; go_wp2_with fail; go_ret; exact ⟨rfl, rfl⟩
end
section
open Go.RowKit
theorem qle {l m : List UInt8} (h : m.length = l.length) : qbj l 0 m = m := by
 rw [qbj, List.take_zero, List.nil_append, List.drop_of_length_le (by omega), List.append_nil]
def qug (b : Nat) (t : TypeId) (l : List UInt8) (w : World) (e : Ending) (w' : World) : Prop := e = .returned (.tuple #[]) ∧ RowB w' b t l ∧ (∀ k, k < w.heap.size → k ≠ b → w'.heap[k]? = w.heap[k]?) ∧ ∀ lo, lo ≤ b → lo ≤ w.heap.size → Below lo w w'
theorem qfb (w : World) (b : Nat) (t : TypeId) (l : List UInt8) (h : RowB w b t l) (at' n v : Nat) (c : Nat) (h1 : 1 ≤ n) (h2 : n ≤ 8) (h3 : at' + n ≤ l.length) (h4 : l.length ≤ 1000000) (hv : v < 256 ^ n) (hv8 : v < 18446744073709551616) :
 Calls prog 228 #[.slice (some ⟨b, 0, none⟩) l.length c, .int .i64 (at' : Int), .int .i64 (n : Int), .int .u64 (v : Int)] w (qug b t (putL l at' v n) w) := by
 have H := hid h; have TP := hid (qgp l (some ⟨b, 0, none⟩) c at' n v w h.arr0 h1 h2 h3 h4 hv hv8); have hb := qa0 h; have hl0 : 0 < l.length := by omega
 clear h; go_enter func228, ntmps228; go_wp2_with fail; refine TP.out.mono ?_; rintro e w1 ⟨A, ca, rfl, hown, hbl⟩; have HO := hid hown; have HB := hid hbl; have R1 := H.out.below hbl hb; have HR := hid R1; have hpl : (putL l at' v n).length = l.length := qb7 l at' v n; have HPL := hid hpl; clear hown hbl R1 hpl; go_wp2_with (refine qbd (m := putL l at' v n) (A := A) w1 rfl (.tmp 18) (.tmp 19) rfl (by first | rfl | simp [Act.eval]) (by first | rfl | simp [Act.eval]) (HO.out.arr qbn) (by intro h; rw [h] at HPL; have := HPL.out; simp at this; omega) HR.out (by omega) ?_; intro w2 R2 off2 bel2); have HR2 : RowB w2 b t (putL l at' v n) := by
  rw [List.take_of_length_le (by have := HPL.out; omega), qle HPL.out] at R2; exact R2
 refine bodyPost_ret (v := .tuple #[]) (by simp [results, results228]) rfl ⟨rfl, HR2, fun k hk hkb => (off2 k hkb).trans (HB.out.block k hk), fun lo hlo hlw => bel2 lo w (HB.out.mono hlw) hlo⟩
theorem qgw (l : List UInt8) (A : Option Addr) (c at' n : Nat) (w : World) (hA : Arr byE 1 w w.heap.size A l) (h1 : 1 ≤ n) (h2 : n ≤ 8) (h3 : at' + n ≤ l.length) (h4 : l.length ≤ 1000000) (hc : l.length ≤ c) (hm : c ≤ 9223372036854775807) :
 Calls prog 130 #[.slice A l.length c, .int .i64 (at' : Int), .int .i64 (n : Int)] w fun e w' => e = .returned (.int .u64 (getL l at' n : Nat)) ∧ w' = w := by
 have T := hid (qwk l A c at' n w hA h1 h2 h3 h4 hc hm); clear hA; go_enter func130, ntmps130; go_wp2_with fail; refine T.out.mono ?_; rintro e w1 ⟨rfl, rfl⟩; go_wp2_with fail; go_ret; exact ⟨rfl, rfl⟩
def qau (v : Nat) : Bool := decide (1 ≤ v) && decide (v ≤ 2305843009213693952)
theorem qfv (v : Nat) (w : World) : Calls prog 227 #[.int .u64 (v : Int)] w fun e w' => e = .returned (.bool (qau v)) ∧ w' = w := by
 by_cases h1 : 1 ≤ v
 · by_cases h2 : v ≤ 2305843009213693952
   · have e : qau v = true := by simp [qau, h1, h2]
     have h1' : (1 : Int) ≤ (v : Int) := by omega
     have h2' : (v : Int) ≤ 2305843009213693952 := by omega
     rw [e]; go_enter func227, ntmps227; go_wp2_with fail; go_ret; exact ⟨rfl, rfl⟩
   · have e : qau v = false := by simp [qau, h2]
     have h1' : (1 : Int) ≤ (v : Int) := by omega
     have h2' : ¬ (v : Int) ≤ 2305843009213693952 := by omega
     rw [e]; go_enter func227, ntmps227; go_wp2_with fail; go_ret; exact ⟨rfl, rfl⟩
 · have e : qau v = false := by simp [qau, h1]
   have h1' : ¬ (1 : Int) ≤ (v : Int) := by omega
   rw [e]; go_enter func227, ntmps227; go_wp2_with fail; go_ret; exact ⟨rfl, rfl⟩
end
end Go.Proofs.YtecikkjbnkhhkaaGreat
