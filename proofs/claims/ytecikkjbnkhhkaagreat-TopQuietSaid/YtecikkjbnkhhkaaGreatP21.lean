/- A part of the walk. -/
import Derived.Test.YtecikkjbnkhhkaaGreatP18
namespace Go.Proofs.YtecikkjbnkhhkaaGreat
open _root_.Go.Proofs.Tryz
set_option maxHeartbeats 1000000
open Go.RowKit
structure qap where
 thread : Int
 call : qa7
 code : Int
 found : Bool
 vl : ByteArray
 hA : Option Addr
 hn : Nat
 hc : Nat
 aep : Nat
 began : Int
 ended : Int
def qap.enc (x : qap) : List Value := [.int .i64 x.thread, .int .i64 x.call.kind, .string x.call.key, .string x.call.val, .string x.call.tx, .slice x.call.gA x.call.gn x.call.gc, .int .i64 x.code, .bool x.found, .string x.vl, .slice none 0 0, .slice x.hA x.hn x.hc, .int .u64 (x.aep : Int), .int .i64 x.began, .int .i64 x.ended]
theorem qap.enc_len (x : qap) : x.enc.length = 14 := rfl
theorem qap.enc_one (x : qap) : ∀ u ∈ x.enc, u.oneCell' = true := by
 intro u hu; simp only [qap.enc, List.mem_cons, List.not_mem_nil, or_false] at hu; rcases hu with rfl | rfl | rfl | rfl | rfl | rfl | rfl | rfl | rfl | rfl | rfl | rfl | rfl | rfl <;> rfl
theorem qqt (w : World) : Calls prog 66 #[.slice none 0 0] w fun e w' => e = .returned (.slice none 0 0) ∧ w' = w := by
 have hnil := fun W : World => Lib.run_eql_slice_nil (P := prog) W 45 75 none 0 0 0 0 underlying45
 go_enter func66, ntmps66; go_wp2; go_ret; exact ⟨rfl, rfl⟩
theorem qsu : (prog.info? 330).map (fun i => (i.zero, i.size, i.bytes)) = some (some (.agg #[.bool false, .string ByteArray.empty, .int .u64 0, .int .u64 0, .int .i64 0, .int .i64 0, .int .i64 0, .int .i64 0]), 8, 72) := by kernel_rfl
theorem qxa {ops : Array Oper} {rest : List Oper} {o : Oper} {a : Act} {Q : Exit → Act → World → Prop} (w : World) (hgd : o.guard = none) (s x : Operand)
 (ho : o.op = .call { callee := .builtin .append, args := #[s, x], argTypes := #[87, 87] }) {lo : Nat} {A : Option Addr} {c : Nat} {l : List qas} (hs : a.eval s = .slice A l.length c) (own : Own qas.enc 330 8 w lo A c l)
 {B : Nat} {A2 : Option Addr} {m : List qas} (c2 : Nat) (hx : a.eval x = .slice A2 m.length c2) (arr : Arr qas.enc 8 w B A2 m) (hb : l.length + m.length ≤ 100000) (hlo : lo ≤ w.heap.size)
 (h : ∀ A' c' w', Own qas.enc 330 8 w' lo A' c' (l ++ m) → w.grownBy w' (qa8 A c) → (A' = A ∧ c' = c ∨ ∃ g, A' = some ⟨g, 0, none⟩ ∧ w.heap.size ≤ g) → wpList prog ops Q rest (a.put o.dst (.slice A' (l.length + m.length) c')) w') :
 wpList prog ops Q (o :: rest) a w := by
 obtain ⟨i0, hi, hz0, hz1, hz2⟩ := info_parts qsu; exact qar w hgd s x 87 ho i0 _ 72 underlying87 hi hz0 hz1 hz2 rfl (by decide) qas.enc_len qas.enc_one hs own c2 hx arr (by unfold maxLen; omega) (by omega) hlo h
theorem qqs (l : List qas) (A : Option Addr) (c : Nat) (w : World) (hA : Arr qas.enc 8 w w.heap.size A l) (hb : l.length ≤ 100000) :
 Calls prog 180 #[.slice A l.length c] w (qux qas.enc 330 8 l w) := by
 have HB := hid hb; clear hb; have hnil := fun W : World => Lib.run_eql_slice_nil (P := prog) W 87 330 A l.length c 0 0 underlying87
 cases A with
 | none =>
  go_enter func180, ntmps180; go_wp2; go_ret; have hl : l = [] := by
   rcases hA with h | ⟨b, off, h, _⟩
   · exact h
   · cases h
  subst hl; exact ⟨none, 0, rfl, Own.none_, Below.refl _ _⟩
 | some a =>
  go_enter func180, ntmps180; go_wp2_with (at_builtin; refine qxa (l := []) (m := l) _ rfl (.tmp 5) (.tmp 6) rfl rfl (Own.zero (lo := w.heap.size)) c rfl (hA.below ((Below.refl _ w).alloc (Nat.le_refl _) _)) (by simpa using HB.out) (by simp) ?_; intro A' c' w' hown hgr hloc); go_ret; refine ⟨A', c', by simp, by simpa using hown, ((Below.refl _ w).alloc (Nat.le_refl _) _).grown hgr (by simp) (fun k hk => ?_)⟩; simp [qa8] at hk
theorem qwe : (prog.info? 4).map (fun i => (i.zero, i.size, i.bytes)) = some (some (.bool false), 1, 1) := by kernel_rfl
theorem qo4 {ops : Array Oper} {rest : List Oper} {o : Oper} {a : Act} {Q : Exit → Act → World → Prop} (w : World) (hgd : o.guard = none) (s x : Operand)
 (ho : o.op = .call { callee := .builtin .append, args := #[s, x], argTypes := #[64, 64] }) {lo : Nat} {A : Option Addr} {c : Nat} {l : List Bool} (hs : a.eval s = .slice A l.length c) (own : Own bitE 4 1 w lo A c l)
 {B : Nat} {A2 : Option Addr} {m : List Bool} (c2 : Nat) (hx : a.eval x = .slice A2 m.length c2) (arr : Arr bitE 1 w B A2 m) (hb : l.length + m.length ≤ 100000) (hlo : lo ≤ w.heap.size)
 (h : ∀ A' c' w', Own bitE 4 1 w' lo A' c' (l ++ m) → w.grownBy w' (qa8 A c) → (A' = A ∧ c' = c ∨ ∃ g, A' = some ⟨g, 0, none⟩ ∧ w.heap.size ≤ g) → wpList prog ops Q rest (a.put o.dst (.slice A' (l.length + m.length) c')) w') :
 wpList prog ops Q (o :: rest) a w := by
 obtain ⟨i0, hi, hz0, hz1, hz2⟩ := info_parts qwe; exact qar w hgd s x 64 ho i0 _ 1 underlying64 hi hz0 hz1 hz2 rfl (by decide) qfd qx7 hs own c2 hx arr (by unfold maxLen; omega) (by omega) hlo h
theorem qtk (l : List Bool) (A : Option Addr) (c : Nat) (w : World) (hA : Arr bitE 1 w w.heap.size A l) (hb : l.length ≤ 100000) :
 Calls prog 67 #[.slice A l.length c] w (qux bitE 4 1 l w) := by
 have HB := hid hb; clear hb; have hnil := fun W : World => Lib.run_eql_slice_nil (P := prog) W 64 4 A l.length c 0 0 underlying64
 cases A with
 | none =>
  go_enter func67, ntmps67; go_wp2; go_ret; have hl : l = [] := by
   rcases hA with h | ⟨b, off, h, _⟩
   · exact h
   · cases h
  subst hl; exact ⟨none, 0, rfl, Own.none_, Below.refl _ _⟩
 | some a =>
  go_enter func67, ntmps67; go_wp2_with (at_builtin; refine qo4 (l := []) (m := l) _ rfl (.tmp 5) (.tmp 6) rfl rfl (Own.zero (lo := w.heap.size)) c rfl (hA.below ((Below.refl _ w).alloc (Nat.le_refl _) _)) (by simpa using HB.out) (by simp) ?_; intro A' c' w' hown hgr hloc); go_ret; refine ⟨A', c', by simp, by simpa using hown, ((Below.refl _ w).alloc (Nat.le_refl _) _).grown hgr (by simp) (fun k hk => ?_)⟩; simp [qa8] at hk
theorem qp3 : (prog.info? 70).map (fun i => (i.zero, i.size, i.bytes)) = some (some (.agg #[.int .i64 0, .string ByteArray.empty, .string ByteArray.empty, .int .u64 0, .int .u64 0, .int .u64 0, .int .i64 0]), 7, 72) := by kernel_rfl
theorem qj0 : (prog.info? 68).map (fun i => (i.zero, i.size, i.bytes)) = some (some (.agg #[.int .i64 0, .int .i64 0, .string ByteArray.empty, .string ByteArray.empty, .string ByteArray.empty, .slice none 0 0, .int .i64 0, .bool false, .string ByteArray.empty, .slice none 0 0, .slice none 0 0, .int .u64 0, .int .i64 0, .int .i64 0]), 14, 192) := by kernel_rfl
end Go.Proofs.YtecikkjbnkhhkaaGreat
