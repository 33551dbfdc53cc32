/- A part of the walk. -/
import Derived.Test.YtecikkjbnkhhkaaGreatP02
import Derived.BigQuiet
import Derived.Lib.AppendZerosOnto
import Derived.Lib.Bytealg
import Derived.Lib.Overlaps
import Derived.WalkLawsBesides
import Derived.WalkSpells
import Derived.Deep.OwnRows
namespace Go.Proofs.YtecikkjbnkhhkaaGreat
open _root_.Go.Proofs.Tryz
set_option maxHeartbeats 2000000
set_option maxRecDepth 100000
section
open Go.RowKit
def cmpB (a b : ByteArray) : Int := Lib.compareBytes a.data.toList b.data.toList
theorem qny (a b : ByteArray) (w : World) : Calls prog 127 #[.string a, .string b] w fun e w' => e = .returned (.int .i64 (cmpB a b)) ∧ w = w' := by
 go_enter func127, ntmps127; go_wp2; rw [run_callFunc_extern func172 (by kernel_rfl) (by kernel_rfl) (by kernel_rfl) (e := Extern.BytealgCompare.compare) (by kernel_rfl), Lib.run_compareString]; simp only [Result.andThen]; rw [Oper.upon_value]; go_wp2; go_ret; exact ⟨rfl, rfl⟩
theorem qtj (a b : ByteArray) (w : World) : Calls prog 96 #[.string a, .string b] w fun e w' => e = .returned (.int .i64 (cmpB a b)) ∧ w = w' := by
 go_enter func96, ntmps96; go_wp2_with (go_at_call 127; refine (qny a b _).mono ?_; rintro e w' ⟨rfl, rfl⟩); go_ret; exact ⟨rfl, rfl⟩
theorem qm8 : ∀ x : List UInt8, Op.bytesLess x x = false
 | [] => rfl
 | a :: x => by simp [Op.bytesLess, qm8 x]
theorem qp8 : ∀ x y z : List UInt8, Op.bytesLess x y = true → Op.bytesLess y z = true → Op.bytesLess x z = true
 | _, [], [], _, h2 => by simp [Op.bytesLess] at h2
 | _, _ :: _, [], _, h2 => by simp [Op.bytesLess] at h2
 | [], _, _ :: _, _, _ => by simp [Op.bytesLess]
 | _ :: _, [], _ :: _, h1, _ => by simp [Op.bytesLess] at h1
 | a :: x, b :: y, c :: z, h1, h2 => by
  simp only [Op.bytesLess, Bool.or_eq_true, decide_eq_true_eq, Bool.and_eq_true, beq_iff_eq] at h1 h2 ⊢
  rcases h1 with h1 | ⟨rfl, h1⟩ <;> rcases h2 with h2 | ⟨rfl, h2⟩
  · exact .inl (UInt8.lt_trans h1 h2)
  · exact .inl h1
  · exact .inl h2
  · exact .inr ⟨rfl, qp8 x y z h1 h2⟩
theorem qp9 : ∀ x y : List UInt8, Op.bytesLess x y = false → Op.bytesLess y x = false → x = y
 | [], [], _, _ => rfl
 | [], _ :: _, h, _ => by simp [Op.bytesLess] at h
 | _ :: _, [], _, h => by simp [Op.bytesLess] at h
 | a :: x, b :: y, h1, h2 => by
  simp only [Op.bytesLess, Bool.or_eq_false_iff, decide_eq_false_iff_not, Bool.and_eq_false_iff, beq_eq_false_iff_ne] at h1 h2
  have e : a = b := UInt8.le_antisymm (UInt8.not_lt.1 h2.1) (UInt8.not_lt.1 h1.1)
  subst e
  rw [qp9 x y (by simpa using h1.2) (by simpa using h2.2)]
theorem qy9 : ∀ x y : List UInt8, Lib.compareBytes x y = if Op.bytesLess x y = true then -1 else if Op.bytesLess y x = true then 1 else 0
 | [], [] => rfl
 | [], _ :: _ => rfl
 | _ :: _, [] => rfl
 | a :: x, b :: y => by
  unfold Lib.compareBytes
  simp only [Op.bytesLess, Bool.or_eq_true, decide_eq_true_eq, Bool.and_eq_true, beq_iff_eq]
  by_cases h1 : a < b
  · simp [h1]
  · by_cases h2 : b < a
    · have : a ≠ b := fun e => by subst e; exact UInt8.lt_irrefl _ h2
      simp [h1, h2, this]
    · have e : a = b := UInt8.le_antisymm (UInt8.not_lt.1 h2) (UInt8.not_lt.1 h1)
      subst e
      simp [h1, qy9 x y]
theorem qbu {a b : ByteArray} (h : a.toList = b.toList) : a = b := by
 rw [Lib.toList_data, Lib.toList_data] at h; exact ByteArray.ext (Array.toList_inj.1 h)
def kl (a b : ByteArray) : Bool := Op.bytesLess a.toList b.toList
theorem qdh (a : ByteArray) : kl a a = false := qm8 _
theorem qeh {a b c : ByteArray} (h : kl a b = true) (k : kl b c = true) : kl a c = true := qp8 _ _ _ h k
theorem qp0 {a b : ByteArray} (h : kl a b = false) (k : kl b a = false) : a = b := qbu (qp9 _ _ h k)
theorem qei {a b : ByteArray} (h : kl a b = true) : kl b a = false := by
 cases e : kl b a with
 | false => rfl
 | true => have := qeh h e; rw [qdh] at this; cases this
theorem qsr {a b : ByteArray} (h : kl a b = true) : a ≠ b := fun e => by subst e; rw [qdh] at h; cases h
theorem qhw (a b : ByteArray) : cmpB a b = if kl a b = true then -1 else if kl b a = true then 1 else 0 := by
 unfold cmpB kl; rw [qy9, Lib.toList_data, Lib.toList_data]
end
section
open Go.RowKit
structure qa3 where
 key : ByteArray
 id : Nat
 ver : Nat
 line : Int
 cls : Int
 deriving DecidableEq
def qa3.enc (x : qa3) : List Value := [.string x.key, .int .u64 (x.id : Int), .int .u64 (x.ver : Int), .int .i64 x.line, .int .i64 x.cls]
theorem qa3.enc_len (x : qa3) : x.enc.length = 5 := rfl
theorem qa3.enc_one (x : qa3) : ∀ u ∈ x.enc, u.oneCell' = true := by
 intro u hu; simp only [qa3.enc, List.mem_cons, List.not_mem_nil, or_false] at hu; rcases hu with rfl | rfl | rfl | rfl | rfl <;> rfl
def qa3.val (x : qa3) : Value := .agg x.enc.toArray
def qak : qa3 := ⟨ByteArray.empty, 0, 0, 0, 0⟩
structure qbo (w : World) (lo p : Nat) (A : Option Addr) (c : Nat) (L : List qa3) (at' n : Nat) : Prop where
 box : w.heap[p]? = some (.cells #[.slice A L.length c, .int .i64 (at' : Int), .int .i64 (n : Int)] 210 (0, 0))
 rows : Own qa3.enc 85 5 w lo A c L
 lo : lo ≤ p
 fit : n ≤ L.length ∧ (L.length = 0 ∨ at' < L.length)
 nil : L = [] → A = none ∧ c = 0 ∧ at' = 0
theorem qnq (w : World) : Calls prog 76 #[] w fun e w' => e = .returned (.pointer (some ⟨w.heap.size, 0, none⟩)) ∧ qbo w' w.heap.size w.heap.size none 0 [] 0 0 ∧ Below w.heap.size w w' := by
 go_enter func76, ntmps76; go_wp2_with fail; go_ret; exact ⟨rfl, ⟨(qa2 _ _ _).trans (if_pos rfl), Own.none_, Nat.le_refl _, by simp, fun _ => ⟨rfl, rfl, rfl⟩⟩, (Below.refl _ _).alloc (Nat.le_refl _) _⟩
theorem Arr.link {w : World} {B : Nat} {A : Option Addr} {l : List qa3} (h : Arr qa3.enc 5 w B A l) {i : Nat} (hi : i < l.length) : ∃ b off, A = some ⟨b, off, none⟩ ∧ b < B ∧ w.cell? ⟨b, off + i * 5, none⟩ = some (.string l[i].key) ∧ w.cell? ⟨b, off + i * 5 + 1, none⟩ = some (.int .u64 (l[i].id : Int)) ∧ w.cell? ⟨b, off + i * 5 + 2, none⟩ = some (.int .u64 (l[i].ver : Int)) ∧ w.cell? ⟨b, off + i * 5 + 3, none⟩ = some (.int .i64 l[i].line) ∧ w.cell? ⟨b, off + i * 5 + 4, none⟩ = some (.int .i64 l[i].cls) := by
 rcases h with rfl | ⟨b, off, rfl, hB, hc⟩
 · simp at hi
 · exact ⟨b, off, rfl, hB, by simpa using hc i hi 0 _ rfl, hc i hi 1 _ rfl, hc i hi 2 _ rfl, hc i hi 3 _ rfl, hc i hi 4 _ rfl⟩
def qed (x : qa3) (ok : Bool) (w : World) (e : Ending) (w' : World) : Prop := e = .returned (.tuple #[x.val, .bool ok]) ∧ Below w.heap.size w w'
theorem qn4 (w : World) (lo p : Nat) (A : Option Addr) (c : Nat) (L : List qa3) (at' : Nat) (h : qbo w lo p A c L at' 0) : Calls prog 311 #[.pointer (some ⟨p, 0, none⟩)] w (qed qak false w) := by
 have hp := qa0 h.box; have p2 := cell_of_row w p 2 _ _ _ h.box; clear h; go_enter func311, ntmps311; go_wp2_with fail; refine bodyPost_ret (v := .tuple #[qak.val, .bool false]) (by simp [results, results311, go_sem, qak, qa3.val, qa3.enc]; rfl) rfl ⟨rfl, (Below.refl _ _).alloc (Nat.le_refl _) _⟩
theorem qgf (w : World) (lo p : Nat) (A : Option Addr) (c : Nat) (L : List qa3) (at' n : Nat) (h : qbo w lo p A c L at' n) (hn : ¬ n = 0) (ha : at' < L.length) : Calls prog 311 #[.pointer (some ⟨p, 0, none⟩)] w (qed L[at'] true w) := by
 have hp := qa0 h.box; have p0 := cell_of_row w p 0 _ _ _ h.box; have p1 := cell_of_row w p 1 _ _ _ h.box; have p2 := cell_of_row w p 2 _ _ _ h.box; obtain ⟨b, off, rfl, hB, c0, c1, c2, c3, c4⟩ := (h.rows.arr qa3.enc_len).link ha; have hne : ((n : Int) == 0) = false := by rw [beq_eq_false_iff_ne]; omega
 have hai : (at' : Int) < (L.length : Int) := by omega
 have HX := hid (show L[at'].val = .agg #[.string L[at'].key, .int .u64 (L[at'].id : Int), .int .u64 (L[at'].ver : Int), .int .i64 L[at'].line, .int .i64 L[at'].cls] from rfl); clear h; go_enter func311, ntmps311; go_wp2_with fail; go_region; all_goals
  go_wp2_with fail; refine bodyPost_ret (v := .tuple #[L[at'].val, .bool true]) (by rw [HX.out]; simp [results, results311, go_sem]) rfl ⟨rfl, by first | exact ((Below.refl _ _).alloc (Nat.le_refl _) _).drew | exact (Below.refl _ _).drew.alloc (Nat.le_refl _) _⟩
end
section
open Go.RowKit
theorem qom (x y : Int) (k : IntKind) (w : World) : (Op.intArith .add k x y).run prog w = .ok (.int k (k.wrap (x + y))) w := rfl
theorem qgx (b o : Nat) (c d : Int) (w : World) (h : w.cell? ⟨b, o, none⟩ = some (.int .i64 c)) (hf : w.frozen? ⟨b, o, none⟩ = false) (_hb : b < w.heap.size) : Calls prog 116 #[.pointer (some ⟨b, o, none⟩), .int .i64 d] w fun e w' => ∃ v : Int, e = .returned (.int .i64 v) ∧ w' = w.setCell ⟨b, o, none⟩ (.int .i64 v) := by
 have hadd := run_call_add (P := prog) func151 (by kernel_rfl) (by kernel_rfl) (by kernel_rfl) .i64 (by kernel_rfl) h hf (qom c d .i64 w); go_enter func116, ntmps116; go_wp2_with fail; go_ret; exact ⟨_, rfl, rfl⟩
theorem qpb (b o : Nat) (c d : Int) (w : World) (h : w.cell? ⟨b, o, none⟩ = some (.int .u64 c)) (hf : w.frozen? ⟨b, o, none⟩ = false) (_hb : b < w.heap.size) : Calls prog 265 #[.pointer (some ⟨b, o, none⟩), .int .u64 d] w fun e w' => e = .returned (.int .u64 (IntKind.u64.wrap (c + d))) ∧ w' = w.setCell ⟨b, o, none⟩ (.int .u64 (IntKind.u64.wrap (c + d))) := by
 have hadd := run_call_add (P := prog) func315 (by kernel_rfl) (by kernel_rfl) (by kernel_rfl) .u64 (by kernel_rfl) h hf (qom c d .u64 w); go_enter func265, ntmps265; go_wp2_with fail; go_ret; exact ⟨rfl, rfl⟩
theorem qe7 (b o : Nat) (c : Int) (w : World) (h : w.cell? ⟨b, o, none⟩ = some (.int .u64 c)) (_hb : b < w.heap.size) : Calls prog 64 #[.pointer (some ⟨b, o, none⟩)] w fun e w' => e = .returned (.int .u64 c) ∧ w' = w := by
 have hl := run_call_load (P := prog) func100 (by kernel_rfl) (by kernel_rfl) (by kernel_rfl) .u64 (by kernel_rfl) h; go_enter func64, ntmps64; go_wp2_with fail; go_ret; exact ⟨rfl, rfl⟩
def qB9 (w : World) (a : Addr) (u : Value) (e : Ending) (w' : World) : Prop := e = .returned (.tuple #[]) ∧ w' = w.setCell a u
theorem qfn (b o : Nat) (c d : Int) (w : World) (h : w.cell? ⟨b, o, none⟩ = some (.int .u64 c)) (hf : w.frozen? ⟨b, o, none⟩ = false) (_hb : b < w.heap.size) : Calls prog 101 #[.pointer (some ⟨b, o, none⟩), .int .u64 d] w (qB9 w ⟨b, o, none⟩ (.int .u64 d)) := by
 have hs := run_call_store (P := prog) func133 (by kernel_rfl) (by kernel_rfl) (by kernel_rfl) (by kernel_rfl) (k := .u64) (y := d) h hf; go_enter func101, ntmps101; go_wp2_with fail; refine bodyPost_ret (v := .tuple #[]) (by simp [results, results101]) rfl ⟨rfl, rfl⟩
theorem qx2 (b o : Nat) (c d : Int) (w : World) (h : w.cell? ⟨b, o, none⟩ = some (.int .u64 c)) (hf : w.frozen? ⟨b, o, none⟩ = false) (_hb : b < w.heap.size) : Calls prog 206 #[.pointer (some ⟨b, o, none⟩), .int .u64 c, .int .u64 d] w fun e w' => e = .returned (.bool true) ∧ w' = w.setCell ⟨b, o, none⟩ (.int .u64 d) := by
 have hs := run_call_cas_hit (P := prog) func263 (by kernel_rfl) (by kernel_rfl) (by kernel_rfl) .u64 (by kernel_rfl) (y := d) h hf; go_enter func206, ntmps206; go_wp2_with fail; go_ret; exact ⟨rfl, rfl⟩
theorem qtq (b o : Nat) (c x d : Int) (hne : ¬ c = x) (w : World) (h : w.cell? ⟨b, o, none⟩ = some (.int .u64 c)) (hf : w.frozen? ⟨b, o, none⟩ = false) (_hb : b < w.heap.size) : Calls prog 206 #[.pointer (some ⟨b, o, none⟩), .int .u64 x, .int .u64 d] w fun e w' => e = .returned (.bool false) ∧ w' = w := by
 have hs := run_call_cas_miss (P := prog) func263 (by kernel_rfl) (by kernel_rfl) (by kernel_rfl) .u64 (by kernel_rfl) (o := x) (y := d) h hf hne; go_enter func206, ntmps206; go_wp2_with fail; go_ret; exact ⟨rfl, rfl⟩
end
section
open Go.RowKit
def qx5 (l : List Bool) : List Value := l.map Value.bool
def clkC (now dur clo : Nat) (oc n : Nat) (noted left : List Bool) (step : Value) : List Value := [.int .u64 (now : Int), .int .u64 (dur : Int), .int .u64 (clo : Int), .slice (some ⟨oc, 0, none⟩) n n] ++ qx5 noted ++ qx5 left ++ [step]
structure qbi (w : World) (lo p oc now dur clo : Nat) (owed : List Int) (noted left : List Bool) (step : Value) : Prop where
 box : w.heap[p]? = some (.cells (clkC now dur clo oc owed.length noted left step).toArray 150 (0, 0))
 rows : w.heap[oc]? = some (.cells (owed.map (Value.int .i64)).toArray 3 (0, 0))
 lo : lo ≤ p ∧ lo ≤ oc ∧ p ≠ oc
 len : 1 ≤ owed.length ∧ owed.length ≤ 4 ∧ noted.length = 258 ∧ left.length = 258
section
variable {w : World} {lo p oc now dur clo : Nat} {owed : List Int} {noted left : List Bool} {step : Value}
theorem qbi.c0 (h : qbi w lo p oc now dur clo owed noted left step) : w.cell? ⟨p, 0, none⟩ = some (.int .u64 (now : Int)) := by rw [cell_of_row w p 0 _ _ _ h.box]; rfl
theorem qbi.c1 (h : qbi w lo p oc now dur clo owed noted left step) : w.cell? ⟨p, 1, none⟩ = some (.int .u64 (dur : Int)) := by rw [cell_of_row w p 1 _ _ _ h.box]; rfl
theorem qbi.c2 (h : qbi w lo p oc now dur clo owed noted left step) : w.cell? ⟨p, 2, none⟩ = some (.int .u64 (clo : Int)) := by rw [cell_of_row w p 2 _ _ _ h.box]; rfl
theorem qbi.c3 (h : qbi w lo p oc now dur clo owed noted left step) : w.cell? ⟨p, 3, none⟩ = some (.slice (some ⟨oc, 0, none⟩) owed.length owed.length) := by rw [cell_of_row w p 3 _ _ _ h.box]; rfl
theorem qbi.lt (h : qbi w lo p oc now dur clo owed noted left step) : p < w.heap.size := qa0 h.box
theorem qkh (h : qbi w lo p oc now dur clo owed noted left step) : Calls prog 41 #[.pointer (some ⟨p, 0, none⟩)] w fun e w' => e = .returned (.int .u64 (now : Int)) ∧ w' = w := by
 have hp := h.lt; have T := hid (qe7 p 0 (now : Int) w h.c0 hp); clear h; go_enter func41, ntmps41; go_wp2_with fail; refine T.out.mono ?_; rintro e w1 ⟨rfl, rfl⟩; go_wp2_with fail; go_ret; exact ⟨rfl, rfl⟩
theorem qx1 (h : qbi w lo p oc now dur clo owed noted left step) : Calls prog 42 #[.pointer (some ⟨p, 0, none⟩)] w fun e w' => e = .returned (.int .u64 (dur : Int)) ∧ w' = w := by
 have hp := h.lt; have T := hid (qe7 p 1 (dur : Int) w h.c1 hp); clear h; go_enter func42, ntmps42; go_wp2_with fail; refine T.out.mono ?_; rintro e w1 ⟨rfl, rfl⟩; go_wp2_with fail; go_ret; exact ⟨rfl, rfl⟩
theorem qbi.owe (h : qbi w lo p oc now dur clo owed noted left step) {t : Nat} (_ht : t < owed.length) (v : Int) : qbi (w.setCell ⟨oc, t, none⟩ (.int .i64 v)) lo p oc now dur clo (owed.set t v) noted left step := by
 refine ⟨by rw [List.length_set]; exact (Below.heap_setCell _ _ _ _ h.lo.2.2).trans h.box, ?_, h.lo, by rw [List.length_set]; exact h.len⟩; have := heap_setCell_same w oc t _ _ (.int .i64 v) h.rows; rw [this, List.map_set, List.setIfInBounds_toArray]
theorem qtm {now dur clo oc n : Nat} {noted left : List Bool} {step : Value} {i : Nat} (hi : i < noted.length) (v : Bool) : (clkC now dur clo oc n noted left step).set (4 + i) (.bool v) = clkC now dur clo oc n (noted.set i v) left step := by
 unfold clkC qx5; simp only [List.append_assoc]; rw [List.set_append_right _ _ (by simp), List.set_append_left _ _ (by simp; omega), List.map_set]; simp
theorem qbi.note (h : qbi w lo p oc now dur clo owed noted left step) {i : Nat} (hi : i < 258) : qbi (w.setCell ⟨p, 4 + i, none⟩ (.bool true)) lo p oc now dur clo owed (noted.set i true) left step := by
 refine ⟨?_, (Below.heap_setCell _ _ _ _ (Ne.symm h.lo.2.2)).trans h.rows, h.lo, by rw [List.length_set]; exact h.len⟩; have := heap_setCell_same w p (4 + i) _ _ (.bool true) h.box; rw [this, List.setIfInBounds_toArray, qtm (by have := h.len; omega)]
theorem qbi.atNote (h : qbi w lo p oc now dur clo owed noted left step) {i : Nat} (hi : i < 258) : ∃ b : Bool, w.cell? ⟨p, 4 + i, none⟩ = some (.bool b) ∧ w.frozen? ⟨p, 4 + i, none⟩ = false := by
 have hl := h.len; refine ⟨noted[i], ?_, frozen_of_row w p _ _ _ h.box⟩; rw [cell_of_row w p _ _ _ _ h.box, List.getElem?_toArray]; unfold clkC qx5; simp only [List.append_assoc]; rw [List.getElem?_append_right (by simp), List.getElem?_append_left (by simp; omega), List.getElem?_map]; simp only [List.length_cons, List.length_nil, Nat.add_sub_cancel_left]; rw [List.getElem?_eq_getElem (by omega)]; rfl
end
theorem qvw (w : World) (lo p oc now dur clo : Nat) (owed : List Int) (noted left : List Bool) (step : Value) (h : qbi w lo p oc now dur clo owed noted left step) (t i : Nat) (ht : t < owed.length) (hi : i < 258) : Calls prog 269 #[.pointer (some ⟨p, 0, none⟩), .int .i64 (t : Int), .int .i64 (i : Int)] w fun e w' => e = .returned (.int .i64 0) ∧ (∃ owed', owed'.length = owed.length ∧ qbi w' lo p oc now dur clo owed' (noted.set i true) left step) ∧ (∀ b, b ≠ p → b ≠ oc → w'.heap[b]? = w.heap[b]?) ∧ Below lo w w' := by
 have H := hid h; have hp := h.lt; have p3 := h.c3; have hoc := qa0 h.rows; have n0 : w.cell? ⟨oc, t, none⟩ = some (.int .i64 owed[t]) := by
  rw [cell_of_row w oc t _ _ _ h.rows, List.getElem?_toArray, List.getElem?_map, List.getElem?_eq_getElem ht]; rfl
 have f0 := frozen_of_row w oc t _ _ h.rows; obtain ⟨b0, m0, g0⟩ := h.atNote hi; have hpo := h.lo.2.2; have hlo := h.lo; have hti : (t : Int) < (owed.length : Int) := by omega
 have hii : (i : Int) < 258 := by omega
 clear h; generalize owed[t] = v at *; go_enter func269, ntmps269; go_wp2_with fail; go_ret; exact ⟨rfl, ⟨owed.set t _, by simp, (H.out.owe ht _).note hi⟩, (fun b h1 h2 => (Below.heap_setCell _ _ _ _ h1).trans (Below.heap_setCell _ _ _ _ h2)), ((Below.refl lo w).setCell hlo.2.1 _).setCell hlo.1 _⟩
end
end Go.Proofs.YtecikkjbnkhhkaaGreat
