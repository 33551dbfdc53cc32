/- A part of the walk. -/
import Derived.Test.YtecikkjbnkhhkaaGreatP08
namespace Go.Proofs.YtecikkjbnkhhkaaGreat
open _root_.Go.Proofs.Tryz
set_option maxHeartbeats 2000000
set_option maxRecDepth 100000
section
open Go.RowKit
def lvlC (c : Nat) : Nat := if c / 2147483648 % 2 = 0 then 1 else if c / 1073741824 % 2 = 0 then 2 else if c / 536870912 % 2 = 0 then 3 else 4
def qgn (s : ByteArray) : Nat := lvlC (sumT s)
theorem qw3 (c : Nat) : 1 ≤ lvlC c ∧ lvlC c ≤ 4 := by unfold lvlC; constructor <;> (repeat' split) <;> omega
theorem qhk (s : ByteArray) : 1 ≤ qgn s ∧ qgn s ≤ 4 := qw3 _
def preB (c k : Nat) : Prop := (1 ≤ k → c / 2147483648 % 2 = 1) ∧ (2 ≤ k → c / 1073741824 % 2 = 1) ∧ (3 ≤ k → c / 536870912 % 2 = 1)
theorem qAl {c : Nat} (h : c / 2147483648 % 2 = 0) : lvlC c = 1 := by simp [lvlC, h]
theorem qAk {c : Nat} (h : preB c 1) (h1 : c / 1073741824 % 2 = 0) : lvlC c = 2 := by have := h.1 (by omega); simp [lvlC, h1, this]
theorem qAj {c : Nat} (h : preB c 2) (h1 : c / 536870912 % 2 = 0) : lvlC c = 3 := by have := h.1 (by omega); have := h.2.1 (by omega); simp [lvlC, *]
theorem qAi {c : Nat} (h : preB c 3) : lvlC c = 4 := by have := h.1 (by omega); have := h.2.1 (by omega); have := h.2.2 (by omega); simp [lvlC, *]
theorem qo5 (c : Nat) (h : c < 4294967296) : bits .and .u32 (c : Int) 1 = ((c % 2 : Nat) : Int) := by
 have := u32_and_nat c 1 h (by omega); rwa [Nat.and_one_is_mod] at this
theorem qiw (s : ByteArray) (hn : s.size ≤ 1000000) (w : World) : Calls prog 326 #[.string s] w fun e w' => e = .returned (.int .i64 (qgn s : Nat)) ∧ w = w' := by
 have hlt := qmu s; rw [qgn]; obtain ⟨c, hc⟩ : ∃ c, c = sumT s := ⟨_, rfl⟩; rw [← hc] at hlt ⊢; have b0 := qo5 (c / 2147483648) (by omega); have b1 := qo5 (c / 1073741824) (by omega); have b2 := qo5 (c / 536870912) (by omega); simp only [Int.natCast_ediv, Int.cast_ofNat_Int] at b0 b1 b2; have hcall : ∀ w, Calls prog 299 #[.string s] w fun e w' => e = .returned (.int .u32 (c : Nat)) ∧ w = w' := fun w => by rw [hc]; exact (qjq s w hn).mono (fun e w' h => ⟨h.1, h.2.symm⟩)
 clear hc; go_enter func326, ntmps326; go_wp2_with (go_at_call 299; refine (hcall _).mono ?_; rintro e w' ⟨rfl, rfl⟩); go_loop [4, 8] (fun v4 v8 => ∃ k : Nat, k ≤ 3 ∧ v8 = .int .i64 k ∧ v4 = .int .i64 (k + 1) ∧ preB c k) (fun _ v8 => 4 - (intOf v8).toNat)
 case atStart => exact ⟨0, Nat.zero_le _, rfl, rfl, by simp [preB]⟩
 case round =>
  obtain ⟨k, hk, rfl, rfl, hpre⟩ := hrel; rcases (by omega : k = 0 ∨ k = 1 ∨ k = 2 ∨ k = 3) with rfl | rfl | rfl | rfl
  · by_cases h0 : c / 2147483648 % 2 = 0
    · have z : ((c / 2147483648 % 2 : Nat) : Int) = 0 := by omega
      have zz := qAl h0; rw [z] at b0; clear b1 b2 z; go_wp2; go_ret; exact ⟨rfl, rfl⟩
    · have z : ((c / 2147483648 % 2 : Nat) : Int) = 1 := by omega
      rw [z] at b0; clear b1 b2 z; go_wp2_with fail; exact ⟨⟨1, by omega, by go_num, by go_num, ⟨fun _ => by omega, by omega, by omega⟩⟩, by first | (simp [intOf]; done) | (simp [intOf]; omega)⟩
  · have p1 := hpre.1 (by omega)
    by_cases h0 : c / 1073741824 % 2 = 0
    · have z : ((c / 1073741824 % 2 : Nat) : Int) = 0 := by omega
      have zz := qAk hpre h0; rw [z] at b1; clear b0 b2 z hpre; go_wp2; go_ret; exact ⟨rfl, rfl⟩
    · have z : ((c / 1073741824 % 2 : Nat) : Int) = 1 := by omega
      rw [z] at b1; clear b0 b2 z hpre; go_wp2_with fail; exact ⟨⟨2, by omega, by go_num, by go_num, ⟨fun _ => by omega, fun _ => by omega, by omega⟩⟩, by first | (simp [intOf]; done) | (simp [intOf]; omega)⟩
  · have p1 := hpre.1 (by omega)
    have p2 := hpre.2.1 (by omega); by_cases h0 : c / 536870912 % 2 = 0
    · have z : ((c / 536870912 % 2 : Nat) : Int) = 0 := by omega
      have zz := qAj hpre h0; rw [z] at b2; clear b0 b1 z hpre; go_wp2; go_ret; exact ⟨rfl, rfl⟩
    · have z : ((c / 536870912 % 2 : Nat) : Int) = 1 := by omega
      rw [z] at b2; clear b0 b1 z hpre; go_wp2_with fail; exact ⟨⟨3, by omega, by go_num, by go_num, ⟨fun _ => by omega, fun _ => by omega, fun _ => by omega⟩⟩, by first | (simp [intOf]; done) | (simp [intOf]; omega)⟩
  · have zz := qAi hpre
    clear hpre b0 b1 b2; go_wp2; go_ret; exact ⟨rfl, rfl⟩
end
section
open Go.RowKit
def Rise (l : List qa3) : Prop := l.Pairwise (fun x y => kl x.key y.key = true)
def posL (l : List qa3) (key : ByteArray) : Nat := l.findIdx (fun x => !kl x.key key)
def hasL (l : List qa3) (key : ByteArray) : Bool := l.any fun x => decide (x.key = key)
def setL (l : List qa3) (x : qa3) : List qa3 := l.filter (fun y => kl y.key x.key) ++ x :: l.filter (fun y => kl x.key y.key)
def qd9 (l : List qa3) (key : ByteArray) : List qa3 := l.filter (fun y => !decide (y.key = key))
def onLv (i : Nat) (y : qa3) : Bool := decide (i < qgn y.key)
def atLv (l : List qa3) (i : Nat) : List qa3 := l.filter (onLv i)
theorem qsq (a b : ByteArray) : kl a b = true ∨ a = b ∨ kl b a = true := by
 cases h : kl a b with
 | true => exact .inl rfl
 | false =>
  cases h' : kl b a with
  | true => exact .inr (.inr rfl)
  | false => exact .inr (.inl (qp0 h h'))
theorem qd7 {a b : ByteArray} (h : a = b) : kl a b = false := by subst h; exact qdh _
theorem qdo : ∀ (l : List qa3) (key : ByteArray), Rise l → ∃ A m B, l = A ++ (m ++ B) ∧ (∀ a ∈ A, kl a.key key = true) ∧ (∀ b ∈ B, kl key b.key = true) ∧ (m = [] ∨ ∃ y, m = [y] ∧ y.key = key)
 | [], key, _ => ⟨[], [], [], rfl, by simp, by simp, .inl rfl⟩
 | x :: l, key, h => by
  have h1 := List.pairwise_cons.1 h
  rcases qsq x.key key with hx | hx | hx
  · obtain ⟨A, m, B, e, hA, hB, hm⟩ := qdo l key h1.2
    exact ⟨x :: A, m, B, by rw [e]; rfl, by intro a ha; rcases List.mem_cons.1 ha with rfl | ha; exact hx; exact hA a ha, hB, hm⟩
  · exact ⟨[], [x], l, rfl, by simp, fun b hb => hx ▸ h1.1 b hb, .inr ⟨x, rfl, hx⟩⟩
  · exact ⟨[], [], x :: l, rfl, by simp, by intro b hb; rcases List.mem_cons.1 hb with rfl | hb; exact hx; exact qeh hx (h1.1 b hb), .inl rfl⟩
section
variable {A m B : List qa3} {key : ByteArray} (hA : ∀ a ∈ A, kl a.key key = true) (hB : ∀ b ∈ B, kl key b.key = true) (hm : m = [] ∨ ∃ y, m = [y] ∧ y.key = key)
include hA hB hm
theorem qke : posL (A ++ (m ++ B)) key = A.length := by
 unfold posL; rw [List.findIdx_append]; have e : List.findIdx (fun x : qa3 => !kl x.key key) A = A.length := by
  rw [List.findIdx_eq_length]; intro a ha; simp [hA a ha]
 rw [if_neg (by omega)]; have e2 : List.findIdx (fun x : qa3 => !kl x.key key) (m ++ B) = 0 := by
  rcases hm with rfl | ⟨y, rfl, hy⟩
  · cases B with
    | nil => rfl
    | cons b B => rw [List.nil_append, List.findIdx_cons, qei (hB b (by simp))]; rfl
  · rw [List.cons_append, List.findIdx_cons, qd7 hy]; rfl
 omega
theorem qkf : hasL (A ++ (m ++ B)) key = !m.isEmpty := by
 unfold hasL; rw [List.any_append, List.any_append]; have e1 : A.any (fun x => decide (x.key = key)) = false := by rw [List.any_eq_false]; intro a ha; simpa using qsr (hA a ha)
 have e2 : B.any (fun x => decide (x.key = key)) = false := by rw [List.any_eq_false]; intro b hb; simpa using (qsr (hB b hb)).symm
 rw [e1, e2]; rcases hm with rfl | ⟨y, rfl, hy⟩ <;> simp [*]
theorem qwt : (A ++ (m ++ B)).filter (fun y => kl y.key key) = A := by
 rw [List.filter_append, List.filter_append]; have e1 : A.filter (fun y => kl y.key key) = A := by rw [List.filter_eq_self]; exact hA
 have e2 : B.filter (fun y => kl y.key key) = [] := by rw [List.filter_eq_nil_iff]; intro b hb; simp [qei (hB b hb)]
 rw [e1, e2]; rcases hm with rfl | ⟨y, rfl, hy⟩
 · simp
 · simp [qd7 hy]
theorem qws : (A ++ (m ++ B)).filter (fun y => kl key y.key) = B := by
 rw [List.filter_append, List.filter_append]; have e1 : A.filter (fun y => kl key y.key) = [] := by rw [List.filter_eq_nil_iff]; intro b hb; simp [qei (hA b hb)]
 have e2 : B.filter (fun y => kl key y.key) = B := by rw [List.filter_eq_self]; exact hB
 rw [e1, e2]; rcases hm with rfl | ⟨y, rfl, hy⟩
 · simp
 · simp [qd7 hy.symm]
theorem qwu : qd9 (A ++ (m ++ B)) key = A ++ B := by
 unfold qd9; rw [List.filter_append, List.filter_append]; have e1 : A.filter (fun y => !decide (y.key = key)) = A := by rw [List.filter_eq_self]; intro a ha; simpa using qsr (hA a ha)
 have e2 : B.filter (fun y => !decide (y.key = key)) = B := by rw [List.filter_eq_self]; intro b hb; simpa using (qsr (hB b hb)).symm
 rw [e1, e2]; rcases hm with rfl | ⟨y, rfl, hy⟩ <;> simp [*]
theorem qhv {x : qa3} (hx : x.key = key) : setL (A ++ (m ++ B)) x = A ++ x :: B := by
 subst hx; rw [setL, qwt hA hB hm, qws hA hB hm]
end
theorem qvn {l : List qa3} {x : qa3} (h : Rise l) (hh : hasL l x.key = true) : posL l x.key < l.length ∧ setL l x = l.set (posL l x.key) x := by
 obtain ⟨A, m, B, rfl, hA, hB, hm⟩ := qdo l x.key h; rw [qkf hA hB hm] at hh; rw [qke hA hB hm, qhv hA hB hm rfl]; rcases hm with rfl | ⟨y, rfl, hy⟩
 · simp at hh
 · simp
theorem qvl {l : List qa3} {x : qa3} (h : Rise l) (hh : hasL l x.key = false) : posL l x.key ≤ l.length ∧ setL l x = ins l (posL l x.key) x := by
 obtain ⟨A, m, B, rfl, hA, hB, hm⟩ := qdo l x.key h; rw [qkf hA hB hm] at hh; rw [qke hA hB hm, qhv hA hB hm rfl]; rcases hm with rfl | ⟨y, rfl, hy⟩
 · simp [ins]
 · simp at hh
theorem qth {l : List qa3} {key : ByteArray} (h : Rise l) (hh : hasL l key = true) : posL l key < l.length ∧ qd9 l key = l.take (posL l key) ++ l.drop (posL l key + 1) := by
 obtain ⟨A, m, B, rfl, hA, hB, hm⟩ := qdo l key h; rw [qkf hA hB hm] at hh; rw [qke hA hB hm, qwu hA hB hm]; rcases hm with rfl | ⟨y, rfl, hy⟩
 · simp at hh
 · simp
theorem qj6 {l : List qa3} {key : ByteArray} (hh : hasL l key = false) : qd9 l key = l := by
 unfold qd9; rw [List.filter_eq_self]; intro a ha; rw [hasL, List.any_eq_false] at hh; simpa using hh a ha
theorem qvo {l : List qa3} (h : Rise l) (x : qa3) : Rise (setL l x) := by
 obtain ⟨A, m, B, rfl, hA, hB, hm⟩ := qdo l x.key h; rw [qhv hA hB hm rfl]; unfold Rise at h ⊢; rw [List.pairwise_append] at h ⊢; refine ⟨h.1, ?_, ?_⟩
 · rw [List.pairwise_cons]
   exact ⟨fun b hb => hB b hb, (List.pairwise_append.1 h.2.1).2.1⟩
 · intro a ha b hb
   rcases List.mem_cons.1 hb with rfl | hb
   · exact hA a ha
   · exact h.2.2 a ha b (by simp [hb])
theorem qhe {l : List qa3} (h : Rise l) (p : qa3 → Bool) : Rise (l.filter p) := List.Pairwise.filter p h
theorem qrz {l : List qa3} (h : Rise l) (key : ByteArray) : Rise (qd9 l key) := qhe h _
theorem qhd {l : List qa3} (h : Rise l) (i : Nat) : Rise (atLv l i) := qhe h _
theorem qAm {l : List qa3} (h : Rise l) (x : qa3) (i : Nat) : atLv (setL l x) i = if i < qgn x.key then setL (atLv l i) x else atLv l i := by
 obtain ⟨A, m, B, rfl, hA, hB, hm⟩ := qdo l x.key h; rw [qhv hA hB hm rfl]; unfold atLv; have e : (A ++ (m ++ B)).filter (onLv i) = A.filter (onLv i) ++ (m.filter (onLv i) ++ B.filter (onLv i)) := by simp
 rw [e, List.filter_append, List.filter_cons]; split
 · rename_i hi
   rw [if_pos (by simpa [onLv] using hi), qhv (key := x.key) (fun a ha => hA a (List.mem_filter.1 ha).1) (fun b hb => hB b (List.mem_filter.1 hb).1) ?_ rfl]; rcases hm with rfl | ⟨y, rfl, hy⟩
   · simp
   · right
     exact ⟨y, by rw [List.filter_cons, if_pos (by simpa [onLv, hy] using hi)]; rfl, hy⟩
 · rename_i hi
   rw [if_neg (by simpa [onLv] using hi)]; rcases hm with rfl | ⟨y, rfl, hy⟩
   · simp
   · rw [List.filter_cons, if_neg (by simpa [onLv, hy] using hi)]; simp
theorem qsh (l : List qa3) (key : ByteArray) (i : Nat) : atLv (qd9 l key) i = qd9 (atLv l i) key := by
 unfold atLv qd9; rw [List.filter_filter, List.filter_filter]; congr 1; funext y; rw [Bool.and_comm]
theorem qlk {l : List qa3} {key : ByteArray} {i : Nat} (hi : ¬ i < qgn key) : atLv (qd9 l key) i = atLv l i := by
 rw [qsh]; refine qj6 ?_; rw [hasL, List.any_eq_false]; intro x hx; have := (List.mem_filter.1 hx).2; simp [onLv] at this; simp; rintro rfl; exact hi this
theorem qy7 {l : List qa3} {key : ByteArray} {i : Nat} (hi : i < qgn key) : hasL (atLv l i) key = hasL l key := by
 unfold hasL atLv; rw [List.any_filter]; congr 1; funext x; by_cases e : x.key = key
 · simp [e, onLv, hi]
 · simp [e]
theorem qvm (l : List qa3) (x : qa3) : (setL l x).length ≤ l.length + 1 := by
 unfold setL; rw [List.length_append, List.length_cons]; have : ∀ l : List qa3, (l.filter (fun y => kl y.key x.key)).length + (l.filter (fun y => kl x.key y.key)).length ≤ l.length := by
  intro l; induction l with
  | nil => simp
  | cons a l ih =>
   rw [List.filter_cons, List.filter_cons]; cases h1 : kl a.key x.key with
   | true => rw [qei h1]; simp; omega
   | false =>
    cases h2 : kl x.key a.key with
    | true => simp; omega
    | false => simp; omega
 have := this l; omega
theorem qtg (l : List qa3) (key : ByteArray) : (qd9 l key).length ≤ l.length := List.length_filter_le _ _
theorem qy2 (l : List qa3) (i : Nat) : (atLv l i).length ≤ l.length := List.length_filter_le _ _
end
section
open Go.RowKit
def qch (kind : Int) (key val to' : ByteArray) (A : Option Addr) (n c : Nat) : List Value :=
 [.int .i64 kind, .string key, .string val, .string to', .slice A n c, .int .i64 0, .int .u64 0, .string ByteArray.empty, .bool false, .int .i64 0, .bool false, .string ByteArray.empty, .int .u64 0, .int .u64 0, .int .i64 0, .int .i64 0,
  .int .i64 (-1), .int .i64 0, .int .i64 0, .slice none 0 0, .int .i64 0, .slice none 0 0, .int .i64 0, .bool false, .string ByteArray.empty, .slice none 0 0, .slice none 0 0, .int .u64 0]
theorem qlv (kind : Int) (key val to' : ByteArray) (A : Option Addr) (n c : Nat) : ∀ v ∈ qch kind key val to' A n c, v.oneCell' = true := by
 intro v hv; unfold qch at hv; repeat (rcases List.mem_cons.1 hv with rfl | hv; rfl)
 cases hv
theorem qaf : (prog.info? 89).map (·.size) = some 28 := by kernel_rfl
theorem qai {w : World} {b : Nat} {cur : Array Value} {e : TypeId} {n : Nat} (h : w.heap[b]? = some (.cells cur e (0, 0))) (hn : cur.size = n) : w.there b 0 n := fun j hj => by
 rw [Nat.zero_add, cell_of_row w b j cur e _ h]
 exact ⟨by rw [Array.getElem?_eq_getElem (by omega)]; rfl, frozen_of_row w b j cur e h⟩
def qoc (kind : Int) (key val to' : ByteArray) (w : World) (e : Ending) (w' : World) : Prop :=
 ∃ A c, e = .returned (.agg (qch kind key val to' A 0 c).toArray) ∧ c ≤ 9223372036854775807 ∧ Below w.heap.size w w'
theorem qjb (kind : Int) (key val to' : ByteArray) (A : Option Addr) (c : Nat) (w : World) (hm : c ≤ 9223372036854775807) :
 Calls prog 81 #[.agg #[.int .i64 kind, .string key, .string val, .string to', .slice A 0 c]] w (qoc kind key val to' w) := by
 go_enter func81, ntmps81; go_wp2_with fail; refine (qhx [] A c _ Arr.nil (Nat.zero_le _) hm (by simp)).mono ?_; rintro e w1 ⟨A1, c1, rfl, hown, hb1⟩; simp only [List.length_nil]; have hz := hb1.size; simp only [World.size_alloc] at hz; have hc1 := hown.max; have BX : w1.heap[w.heap.size]? = some (.cells #[.int .i64 kind, .string key, .string val, .string to', .slice A 0 c] 40 (0, 0)) := (hb1.block _ (by simp; omega)).trans (by rw [qa2, if_neg (by simp), qa2, if_pos rfl]); obtain ⟨cur, BY, hcur⟩ : ∃ cur, w1.heap[w.heap.size + 1]? = some (.cells cur 89 (0, 0)) ∧ cur.size = 28 := ⟨_, (hb1.block _ (by simp)).trans (by rw [qa2, if_pos (by simp)]), rfl⟩; have x0 := cell_of_row w1 _ 0 _ _ _ BX; have x1 := cell_of_row w1 _ 1 _ _ _ BX; have x2 := cell_of_row w1 _ 2 _ _ _ BX; have x3 := cell_of_row w1 _ 3 _ _ _ BX; have x4 := cell_of_row w1 _ 4 _ _ _ BX; have f4 := frozen_of_row w1 _ 4 _ _ BX; have hl1 : w.heap.size < w1.heap.size := by omega
 have hl2 : w.heap.size + 1 < w1.heap.size := by omega
 have bw1 : Below w.heap.size w w1 := Below.trans (by repeat (first | exact Below.refl _ _ | assumption | refine Below.drew ?_ | refine qa1 ?_ _ | refine Below.alloc ?_ (by first | omega | simp <;> omega) _ | refine Below.setCell ?_ (by first | omega | simp <;> omega) _)) (hb1.mono (show w.heap.size ≤ _ from (by first | omega | simp <;> omega))); have HCU := hid hcur; clear hown hb1 hcur; go_wp2_with fail; obtain ⟨W, hW⟩ : ∃ W, W = w1.setCell ⟨w.heap.size, 4, none⟩ (.slice A1 0 c1) := ⟨_, rfl⟩; rw [← hW]; have y0 : W.cell? ⟨w.heap.size, 0, none⟩ = some (.int .i64 kind) := by rw [hW]; simp [go_sem, x0]
 have y1 : W.cell? ⟨w.heap.size, 1, none⟩ = some (.string key) := by rw [hW]; simp [go_sem, x1]
 have y2 : W.cell? ⟨w.heap.size, 2, none⟩ = some (.string val) := by rw [hW]; simp [go_sem, x2]
 have y3 : W.cell? ⟨w.heap.size, 3, none⟩ = some (.string to') := by rw [hW]; simp [go_sem, x3]
 have y4 : W.cell? ⟨w.heap.size, 4, none⟩ = some (.slice A1 0 c1) := by rw [hW]; simp [go_sem, x4]
 have bwW : Below w.heap.size w W := by rw [hW]; exact bw1.setCell (Nat.le_refl _) _
 have BYW : W.heap[w.heap.size + 1]? = some (.cells cur 89 (0, 0)) := by
  rw [hW]; exact (Below.heap_setCell _ _ _ _ (by show w.heap.size + 1 ≠ w.heap.size; omega)).trans BY
 clear hW x0 x1 x2 x3 x4 f4 BX BY bw1; have HT := hid (qai BYW HCU.out); have HB := hid bwW; clear BYW bwW; go_loopw [12] (fun vi wr => vi = .int .i64 0 ∧ wr = W) (fun _ _ => 0)
 case atStart => exact ⟨rfl, rfl⟩
 case round =>
  obtain ⟨rfl, rfl⟩ := hrel; have HS := hid (all_oneCell_toArray (qlv kind key val to' A1 0 c1)); go_wp2_with (refine wpList_store_mid (by first | rfl | (exfalso; fail)) 89 (.tmp 2) (.tmp 28) (by first | rfl | fail) (w.heap.size + 1) 0 (qch kind key val to' A1 0 c1).toArray rfl (by rfl) HT.out qaf HS.out ?_); refine bodyPost_ret (v := .agg (qch kind key val to' A1 0 c1).toArray) ?_ rfl ⟨A1, c1, rfl, hc1, ?_⟩
  · exact qah results81 _ _ (w.heap.size + 1) _ _ rfl (World.rangeAt_setCells_same wr (w.heap.size + 1) 0 (qch kind key val to' A1 0 c1) HT.out) underlying89 rfl qaf
  · exact qae (by omega) _ _ _ HB.out
end
section
open Go.RowKit
theorem Own.setGrp {w : World} {lo : Nat} {b off c : Nat} {l : List qa7} (h : Own qa7.enc 40 5 w lo (some ⟨b, off, none⟩) c l) {i : Nat} (hi : i < l.length) (A' : Option Addr) (n' c' : Nat) :
 Own qa7.enc 40 5 (w.setCell ⟨b, off + i * 5 + 4, none⟩ (.slice A' n' c')) lo (some ⟨b, off, none⟩) c (l.modify i fun x => ⟨x.kind, x.key, x.val, x.tx, A', n', c'⟩) := by
 obtain ⟨h1, h2, h3⟩ := h; rcases h3 with h3 | ⟨b', off', cur, hA, hlo, hh, hs, hc⟩
 · omega
 cases hA
 refine ⟨by rw [List.length_modify]; exact h1, h2, .inr ⟨b, off, cur.setIfInBounds (off + i * 5 + 4) (.slice A' n' c'), rfl, hlo, heap_setCell_same w b _ cur _ _ hh, by simpa using hs, ?_⟩⟩; intro j u hu; have hlt := (List.getElem?_eq_some_iff.1 hu).1; rw [qao qa7.enc_len, List.length_modify] at hlt; obtain ⟨q, r, rfl, hq, hr⟩ : ∃ q r, j = q * 5 + r ∧ q < l.length ∧ r < 5 := ⟨j / 5, j % 5, by omega, by omega, by omega⟩; rw [qb0 qa7.enc_len _ q (by rw [List.length_modify]; exact hq) r hr, List.getElem_modify] at hu; have hold := fun u' => hc (q * 5 + r) u'
 rw [qb0 qa7.enc_len l q hq r hr] at hold; by_cases hqi : i = q
 · subst hqi
   rw [if_pos rfl] at hu; rcases (by omega : r = 0 ∨ r = 1 ∨ r = 2 ∨ r = 3 ∨ r = 4) with rfl | rfl | rfl | rfl | rfl
   · rw [Array.getElem?_setIfInBounds_ne (by omega)]; exact hold u hu
   · rw [Array.getElem?_setIfInBounds_ne (by omega)]; exact hold u hu
   · rw [Array.getElem?_setIfInBounds_ne (by omega)]; exact hold u hu
   · rw [Array.getElem?_setIfInBounds_ne (by omega)]; exact hold u hu
   · simp only [qa7.enc, List.getElem?_cons_succ, List.getElem?_cons_zero, Option.some.injEq] at hu
     subst hu; rw [Nat.add_assoc off, Array.getElem?_setIfInBounds_self_of_lt (by omega)]
 · rw [if_neg hqi] at hu
   rw [Array.getElem?_setIfInBounds_ne (by omega)]; exact hold u hu
theorem qgg {α : Type} {enc : α → List Value} {e : TypeId} {k lo b : Nat} {A : Option Addr} {c : Nat} {l : List α} (hb : b < lo) : ∀ (vs : List Value) (o : Nat) (w : World), Own enc e k w lo A c l → Own enc e k (w.setCells b o vs) lo A c l
 | [], _, _, h => h
 | v :: r, o, _, h => qgg hb r (o + 1) _ (h.setCell (p := ⟨b, o, none⟩) hb v)
def Sims (gs g : List qa7) : Prop := gs.length = g.length ∧ ∀ i (h1 : i < gs.length) (h2 : i < g.length), CSim gs[i] g[i] ∧ gs[i].gc ≤ 9223372036854775807
theorem Sims.refl {g : List qa7} (h : ∀ x ∈ g, x.gc ≤ 9223372036854775807) : Sims g g := ⟨rfl, fun _i h1 _ => ⟨CSim.refl _, h _ (List.getElem_mem h1)⟩⟩
theorem Sims.set {gs g : List qa7} (h : Sims gs g) {i : Nat} (hi : i < g.length) (h0 : g[i].gn = 0) (A : Option Addr) {c : Nat} (hc : c ≤ 9223372036854775807) : Sims (gs.modify i fun x => ⟨x.kind, x.key, x.val, x.tx, A, 0, c⟩) g := by
 refine ⟨by rw [List.length_modify]; exact h.1, fun j h1 h2 => ?_⟩; rw [List.length_modify] at h1; rw [List.getElem_modify]; have hs := h.2 j h1 h2; split
 · rename_i e
   subst e; exact ⟨⟨hs.1.kind, hs.1.key, hs.1.val, hs.1.to', h0.symm⟩, hc⟩
 · exact hs
def qjg (kind : Int) (key val to' : ByteArray) (g : List qa7) (w : World) (e : Ending) (w' : World) : Prop :=
 ∃ A c gs, e = .returned (.agg (qch kind key val to' A g.length c).toArray) ∧ Arr qa7.enc 5 w' w'.heap.size A gs ∧ g.length ≤ c ∧ c ≤ 9223372036854775807 ∧ Sims gs g ∧ Below w.heap.size w w' ∧ (gs = [] ∨ ∃ x off, A = some ⟨x, off, none⟩ ∧ w.heap.size ≤ x)
theorem qAq {W W' : World} {n p : Nat} {u v0 v1 v2 v3 v4 : Value} (hb : Below W.heap.size W W') (hn : n < W.heap.size) (hp : p < W.heap.size)
 (h : W.cell? ⟨n, 4, none⟩ = some u ∧ W.cell? ⟨p, 0, none⟩ = some v0 ∧ W.cell? ⟨p, 1, none⟩ = some v1 ∧ W.cell? ⟨p, 2, none⟩ = some v2 ∧ W.cell? ⟨p, 3, none⟩ = some v3 ∧ W.cell? ⟨p, 4, none⟩ = some v4) :
 W'.cell? ⟨n, 4, none⟩ = some u ∧ W'.cell? ⟨p, 0, none⟩ = some v0 ∧ W'.cell? ⟨p, 1, none⟩ = some v1 ∧ W'.cell? ⟨p, 2, none⟩ = some v2 ∧ W'.cell? ⟨p, 3, none⟩ = some v3 ∧ W'.cell? ⟨p, 4, none⟩ = some v4 := by
 rw [hb.cell (p := ⟨n, 4, none⟩) hn, hb.cell (p := ⟨p, 0, none⟩) hp, hb.cell (p := ⟨p, 1, none⟩) hp, hb.cell (p := ⟨p, 2, none⟩) hp, hb.cell (p := ⟨p, 3, none⟩) hp, hb.cell (p := ⟨p, 4, none⟩) hp]; exact h
theorem qnr (kind : Int) (key val to' : ByteArray) (A : Option Addr) (c : Nat) (w : World) : (Instr.field 89 (.agg (qch kind key val to' A 0 c).toArray) 0).run prog w = .ok (.agg #[.int .i64 kind, .string key, .string val, .string to', .slice A 0 c]) w := by kernel_rfl
theorem qqi (kind : Int) (key val to' : ByteArray) (A : Option Addr) (c : Nat) (w : World) : (Instr.field 40 (.agg #[.int .i64 kind, .string key, .string val, .string to', .slice A 0 c]) 4).run prog w = .ok (.slice A 0 c) w := by kernel_rfl
theorem qwg {w : World} {lo b off c i : Nat} {l : List qa7} (h : Own qa7.enc 40 5 w lo (some ⟨b, off, none⟩) c l) (hi : i < l.length) : w.cell? ⟨b, off + i * 5 + 4, none⟩ = some (.slice l[i].gA l[i].gn l[i].gc) := by
 obtain ⟨b', off', hA, _, _, _, _, _, k4⟩ := (h.arr qa7.enc_len).call0 hi; cases hA
 exact k4
theorem qcq {W : World} {b j n i : Nat} {x : Value} (h : n ≠ b) : (W.setCell ⟨b, j, none⟩ x).cell? ⟨n, i, none⟩ = W.cell? ⟨n, i, none⟩ := by
 simp [go_sem]
theorem qAp {W : World} {n p b j : Nat} {x u v0 v1 v2 v3 v4 : Value} 
 (h : W.cell? ⟨n, 4, none⟩ = some u ∧ W.cell? ⟨p, 0, none⟩ = some v0 ∧ W.cell? ⟨p, 1, none⟩ = some v1 ∧ W.cell? ⟨p, 2, none⟩ = some v2 ∧ W.cell? ⟨p, 3, none⟩ = some v3 ∧ W.cell? ⟨p, 4, none⟩ = some v4) (hn : n ≠ b) (hp : p ≠ b) :
 (W.setCell ⟨b, j, none⟩ x).cell? ⟨n, 4, none⟩ = some u ∧ (W.setCell ⟨b, j, none⟩ x).cell? ⟨p, 0, none⟩ = some v0 ∧ (W.setCell ⟨b, j, none⟩ x).cell? ⟨p, 1, none⟩ = some v1 ∧ (W.setCell ⟨b, j, none⟩ x).cell? ⟨p, 2, none⟩ = some v2 ∧ (W.setCell ⟨b, j, none⟩ x).cell? ⟨p, 3, none⟩ = some v3 ∧ (W.setCell ⟨b, j, none⟩ x).cell? ⟨p, 4, none⟩ = some v4 := by
 rw [qcq hn, qcq hp, qcq hp, qcq hp, qcq hp, qcq hp]; exact h
theorem qtu (kind : Int) (key val to' : ByteArray) (gA : Option Addr) (g : List qa7) (gc : Nat) (w : World) (hA : Arr qa7.enc 5 w w.heap.size gA g) (hc : g.length ≤ gc) (hm : gc ≤ 9223372036854775807) (hl : g.length ≤ 100000) (h0 : 0 < g.length) (hgn : ∀ x ∈ g, x.gn = 0) (hgc : ∀ x ∈ g, x.gc ≤ 9223372036854775807) :
 Calls prog 81 #[.agg #[.int .i64 kind, .string key, .string val, .string to', .slice gA g.length gc]] w (qjg kind key val to' g w) := by
 have HA := hid hA; have HGN := hid hgn; have HGC := hid hgc; clear hA hgn hgc; go_enter func81, ntmps81; go_wp2_with fail; refine (qhx g gA gc _ ((HA.out.below (by repeat (first | exact Below.refl _ _ | assumption | refine Below.drew ?_ | refine qa1 ?_ _ | refine Below.alloc ?_ (by first | omega | simp <;> omega) _ | refine Below.setCell ?_ (by first | omega | simp <;> omega) _))).more (by first | omega | simp <;> omega)) hc hm (by omega)).mono ?_; rintro e w1 ⟨A1, c1, rfl, hown, hb1⟩; have hz := hb1.size; simp only [World.size_alloc] at hz; have hc1 := hown.max; have hc2 := hown.len; obtain ⟨b1, o1, rfl, hlo1⟩ : ∃ b1 o1, A1 = some ⟨b1, o1, none⟩ ∧ w.heap.size + 2 ≤ b1 := by
  rcases hown.lt with h | ⟨b, off, hA, hlo, _⟩
  · omega
  · exact ⟨b, off, hA, by simpa using hlo⟩
 have BX : w1.heap[w.heap.size]? = some (.cells #[.int .i64 kind, .string key, .string val, .string to', .slice gA g.length gc] 40 (0, 0)) := (hb1.block _ (by simp; omega)).trans (by rw [qa2, if_neg (by simp), qa2, if_pos rfl]); obtain ⟨cur, BY, hcur⟩ : ∃ cur, w1.heap[w.heap.size + 1]? = some (.cells cur 89 (0, 0)) ∧ cur.size = 28 := ⟨_, (hb1.block _ (by simp)).trans (by rw [qa2, if_pos (by simp)]), rfl⟩; have x0 := cell_of_row w1 _ 0 _ _ _ BX; have x1 := cell_of_row w1 _ 1 _ _ _ BX; have x2 := cell_of_row w1 _ 2 _ _ _ BX; have x3 := cell_of_row w1 _ 3 _ _ _ BX; have x4 := cell_of_row w1 _ 4 _ _ _ BX; have f4 := frozen_of_row w1 _ 4 _ _ BX; have hl1 : w.heap.size < w1.heap.size := by omega
 have hl2 : w.heap.size + 1 < w1.heap.size := by omega
 have bw1 : Below w.heap.size w w1 := Below.trans (by repeat (first | exact Below.refl _ _ | assumption | refine Below.drew ?_ | refine qa1 ?_ _ | refine Below.alloc ?_ (by first | omega | simp <;> omega) _ | refine Below.setCell ?_ (by first | omega | simp <;> omega) _)) (hb1.mono (show w.heap.size ≤ _ from (by first | omega | simp <;> omega))); have HCU := hid hcur; have HO1 := hid (hown.lower (lo' := w.heap.size + 2) (by simp)); clear hown hb1 hcur; go_wp2_with fail; obtain ⟨W, hW⟩ : ∃ W, W = w1.setCell ⟨w.heap.size, 4, none⟩ (.slice (some ⟨b1, o1, none⟩) g.length c1) := ⟨_, rfl⟩; rw [← hW]; have y0 : W.cell? ⟨w.heap.size, 0, none⟩ = some (.int .i64 kind) := by rw [hW]; simp [go_sem, x0]
 have y1 : W.cell? ⟨w.heap.size, 1, none⟩ = some (.string key) := by rw [hW]; simp [go_sem, x1]
 have y2 : W.cell? ⟨w.heap.size, 2, none⟩ = some (.string val) := by rw [hW]; simp [go_sem, x2]
 have y3 : W.cell? ⟨w.heap.size, 3, none⟩ = some (.string to') := by rw [hW]; simp [go_sem, x3]
 have y4 : W.cell? ⟨w.heap.size, 4, none⟩ = some (.slice (some ⟨b1, o1, none⟩) g.length c1) := by rw [hW]; simp [go_sem, x4]
 have HYS := hid (And.intro y0 (And.intro y1 (And.intro y2 (And.intro y3 y4)))); have bwW : Below w.heap.size w W := by rw [hW]; exact bw1.setCell (Nat.le_refl _) _
 have BYW : W.heap[w.heap.size + 1]? = some (.cells cur 89 (0, 0)) := by
  rw [hW]; exact (Below.heap_setCell _ _ _ _ (by show w.heap.size + 1 ≠ w.heap.size; omega)).trans BY
 have HOW := hid (show Own qa7.enc 40 5 W (w.heap.size + 2) (some ⟨b1, o1, none⟩) c1 g by rw [hW]; exact HO1.out.setCell (by show w.heap.size < w.heap.size + 2; omega) _); have hWs : w.heap.size + 2 ≤ W.heap.size := by rw [hW]; simp [World.setCell]; omega
 clear hW x0 x1 x2 x3 x4 f4 BX BY bw1 y0 y1 y2 y3 HO1; have HBYW := hid BYW; have HB := hid bwW; clear BYW bwW; go_loopw [12] (fun vi wr => ∃ (k : Nat) (gs : List qa7), k ≤ g.length ∧ vi = .int .i64 k ∧ Below (w.heap.size + 2) W wr ∧ Own qa7.enc 40 5 wr (w.heap.size + 2) (some ⟨b1, o1, none⟩) c1 gs ∧ Sims gs g) (fun vi _ => g.length - (intOf vi).toNat)
 case atStart => exact ⟨0, g, Nat.zero_le _, rfl, Below.refl _ _, HOW.out, Sims.refl HGC.out⟩
 case round =>
  clear y4; obtain ⟨k, gs, hkl, rfl, hb, hown, hsim⟩ := hrel; have HS := hid hsim; have HO := hid hown; have HBR := hid hb; have hbs := hb.size; have hb1s : b1 < wr.heap.size := by
   rcases hown.lt with h | ⟨b, off, hA, _, hlt⟩
   · omega
   · cases hA; exact hlt
  have y4 := (hb.cell (p := ⟨w.heap.size, 4, none⟩) (by simp)).trans HYS.out.2.2.2.2; have hl1r : w.heap.size < wr.heap.size := by omega
  clear hb hown hsim; by_cases hlt : k < g.length
  · have hlt' : k < gs.length := by have := HS.out.1; omega
    have z0 : (0 : Int) ≤ (k : Int) := by omega
    have z1 : (k : Int) < (g.length : Int) := by omega
    obtain ⟨b', off', hA1, hB', k0, k1, k2, k3, k4⟩ := (HO.out.arr qa7.enc_len).call0 hlt'; cases hA1
    have hgn0 : gs[k].gn = 0 := by rw [(HS.out.2 k hlt' hlt).1.gn]; exact HGN.out _ (List.getElem_mem hlt)
    have hgcm := (HS.out.2 k hlt' hlt).2; rw [hgn0] at k4; obtain ⟨X, hX⟩ : ∃ X, X = gs[k] := ⟨_, rfl⟩; rw [← hX] at k0 k1 k2 k3 k4 hgcm; have HX := hid hX; clear hX; go_upto_region 5 with fail; obtain ⟨V, hV⟩ : ∃ V, V = wr.alloc (.cells #[.int .i64 X.kind, .string X.key, .string X.val, .string X.tx, .slice X.gA 0 X.gc] 40) := ⟨_, rfl⟩; rw [← hV]; have bV : Below wr.heap.size wr V := by rw [hV]; exact (by repeat (first | exact Below.refl _ _ | assumption | refine Below.drew ?_ | refine qa1 ?_ _ | refine Below.alloc ?_ (by first | omega | simp <;> omega) _ | refine Below.setCell ?_ (by first | omega | simp <;> omega) _))
    have hVs : V.heap.size = wr.heap.size + 1 := by rw [hV]; simp
    have v4 := (bV.cell (p := ⟨w.heap.size, 4, none⟩) hl1r).trans y4; have u0 : V.cell? ⟨wr.heap.size, 0, none⟩ = some (.int .i64 X.kind) := by rw [hV]; simp [go_sem]
    have u1 : V.cell? ⟨wr.heap.size, 1, none⟩ = some (.string X.key) := by rw [hV]; simp [go_sem]
    have u2 : V.cell? ⟨wr.heap.size, 2, none⟩ = some (.string X.val) := by rw [hV]; simp [go_sem]
    have u3 : V.cell? ⟨wr.heap.size, 3, none⟩ = some (.string X.tx) := by rw [hV]; simp [go_sem]
    have u4 : V.cell? ⟨wr.heap.size, 4, none⟩ = some (.slice X.gA 0 X.gc) := by rw [hV]; simp [go_sem]
    have HALL := hid (And.intro v4 (And.intro u0 (And.intro u1 (And.intro u2 (And.intro u3 u4))))); have HOV := hid (HO.out.below bV); have HBV := hid (HBR.out.trans (bV.mono (by omega))); have hnV : w.heap.size < V.heap.size := by omega
    have hpV : wr.heap.size < V.heap.size := by omega
    have hbV : b1 < V.heap.size := by omega
    have HGM := hid hgcm; have hnb : w.heap.size ≠ b1 := by omega
    have hpb : wr.heap.size ≠ b1 := by omega
    clear hV bV k0 k1 k2 k3 k4 y4 hgcm; have hfd := qnr X.kind X.key X.val X.tx; have hfd2 := qqi X.kind X.key X.val X.tx; go_region_held3 (fun W' => W'.cell? ⟨w.heap.size, 4, none⟩ = some (.slice (some ⟨b1, o1, none⟩) g.length c1) ∧ W'.cell? ⟨wr.heap.size, 0, none⟩ = some (.int .i64 X.kind) ∧ W'.cell? ⟨wr.heap.size, 1, none⟩ = some (.string X.key) ∧ W'.cell? ⟨wr.heap.size, 2, none⟩ = some (.string X.val) ∧ W'.cell? ⟨wr.heap.size, 3, none⟩ = some (.string X.tx) ∧ W'.cell? ⟨wr.heap.size, 4, none⟩ = some (.slice X.gA 0 X.gc)) (first | exact qAp (qAq (W := V) st2 hnV hpV HALL.out) hnb hpb | exact qAq (W := V) (by with_reducible repeat (first | exact Below.refl _ _ | assumption | refine Below.drew ?_ | refine qa1 ?_ _ | refine Below.alloc ?_ (by first | omega | simp <;> omega) _ | refine Below.setCell ?_ (by first | omega | simp <;> omega) _)) hnV hpV HALL.out | go_keep) (first | (go_at_call 81; refine (qjb X.kind X.key X.val X.tx X.gA X.gc _ HGM.out).mono ?_; rintro e w2 ⟨A2, c2, rfl, hc2m, hb2⟩; have st2 : Below V.heap.size V w2 := (by refine Below.trans ?_ (hb2.mono ?_); exact (by with_reducible repeat (first | exact Below.refl _ _ | assumption | refine Below.drew ?_ | refine qa1 ?_ _ | refine Below.alloc ?_ (by first | omega | simp <;> omega) _ | refine Below.setCell ?_ (by first | omega | simp <;> omega) _)); (first | exact Nat.le_refl _ | (simp; done))); have hO2 := hid (HOV.out.below st2); have e4 := qwg hO2.out hlt'; have f4 := hO2.out.frozen rfl (show 0 < c1 by omega) (o1 + k * 5 + 4))); have HSET := hid (hO2.out.setGrp hlt' A2 0 c2); have HS2 := hid (HS.out.set hlt (HGN.out _ (List.getElem_mem hlt)) A2 hc2m); have HB2 := hid (HBV.out.trans (st2.mono (by omega))); go_wp2_with fail; exact ⟨⟨k + 1, _, by omega, by go_num, HB2.out.setCell (by show w.heap.size + 2 ≤ b1; omega) _, HSET.out, HS2.out⟩, by simp [intOf]; omega⟩
  · have y0 := (HBR.out.cell (p := ⟨w.heap.size, 0, none⟩) (by simp)).trans HYS.out.1
    have y1 := (HBR.out.cell (p := ⟨w.heap.size, 1, none⟩) (by simp)).trans HYS.out.2.1; have y2 := (HBR.out.cell (p := ⟨w.heap.size, 2, none⟩) (by simp)).trans HYS.out.2.2.1; have y3 := (HBR.out.cell (p := ⟨w.heap.size, 3, none⟩) (by simp)).trans HYS.out.2.2.2.1; have HT := hid (qai ((HBR.out.block (w.heap.size + 1) (by omega)).trans HBYW.out) HCU.out); have HSf := hid (all_oneCell_toArray (qlv kind key val to' (some ⟨b1, o1, none⟩) g.length c1)); have hgl : gs.length = g.length := HS.out.1; have HGL := hid hgl; clear hgl; go_wp2_with (refine wpList_store_mid (by first | rfl | (exfalso; fail)) 89 (.tmp 2) (.tmp 28) (by first | rfl | fail) (w.heap.size + 1) 0 (qch kind key val to' (some ⟨b1, o1, none⟩) g.length c1).toArray rfl (by rfl) HT.out qaf HSf.out ?_); have hO3 := qgg (b := w.heap.size + 1) (by omega) (qch kind key val to' (some ⟨b1, o1, none⟩) g.length c1) 0 _ HO.out; refine bodyPost_ret (v := .agg (qch kind key val to' (some ⟨b1, o1, none⟩) g.length c1).toArray) ?_ rfl ⟨_, c1, gs, rfl, hO3.arr qa7.enc_len, hc2, hc1, HS.out, ?_, .inr ⟨b1, o1, rfl, by omega⟩⟩
    · exact qah results81 _ _ (w.heap.size + 1) _ _ rfl (World.rangeAt_setCells_same wr (w.heap.size + 1) 0 (qch kind key val to' (some ⟨b1, o1, none⟩) g.length c1) HT.out) underlying89 rfl qaf
    · exact qae (by omega) _ _ _ (HB.out.trans (HBR.out.mono (by omega)))
theorem qtv (kind : Int) (key val to' : ByteArray) (gA : Option Addr) (g : List qa7) (gc : Nat) (w : World) (hA : Arr qa7.enc 5 w w.heap.size gA g) (hc : g.length ≤ gc) (hm : gc ≤ 9223372036854775807) (hl : g.length ≤ 100000) (hgn : ∀ x ∈ g, x.gn = 0) (hgc : ∀ x ∈ g, x.gc ≤ 9223372036854775807) :
 Calls prog 81 #[.agg #[.int .i64 kind, .string key, .string val, .string to', .slice gA g.length gc]] w (qjg kind key val to' g w) := by
 cases g with
 | nil => exact (qjb kind key val to' gA gc w hm).mono fun _ _ ⟨A, c, h1, h2, h3⟩ => ⟨A, c, [], h1, Arr.nil, Nat.zero_le _, h2, ⟨rfl, fun i h => absurd h (by simp)⟩, h3, .inl rfl⟩
 | cons x g => exact qtu kind key val to' gA (x :: g) gc w hA hc hm hl (by simp) hgn hgc
end
end Go.Proofs.YtecikkjbnkhhkaaGreat
