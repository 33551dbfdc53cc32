/- A part of the walk. -/
import Derived.Test.YtecikkjbnkhhkaaGreatP03
import Derived.StillTailTactics
namespace Go.Proofs.YtecikkjbnkhhkaaGreat
open _root_.Go.Proofs.Tryz
set_option maxHeartbeats 2000000
section
open Go.RowKit
def lvlC (c : Nat) : Nat := if c / 2147483648 % 2 = 0 then 1 else if c / 1073741824 % 2 = 0 then 2 else if c / 536870912 % 2 = 0 then 3 else 4
def qgn (s : ByteArray) : Nat := lvlC (sumT s)
theorem qw3 (c : Nat) : 1 ≤ lvlC c ∧ lvlC c ≤ 4 := by unfold lvlC; constructor <;> (repeat' split) <;> omega
theorem qhk (s : ByteArray) : 1 ≤ qgn s ∧ qgn s ≤ 4 := qw3 _
def preB (c k : Nat) : Prop := (1 ≤ k → c / 2147483648 % 2 = 1) ∧ (2 ≤ k → c / 1073741824 % 2 = 1) ∧ (3 ≤ k → c / 536870912 % 2 = 1)
theorem qAl {c : Nat} (h : c / 2147483648 % 2 = 0) : lvlC c = 1 := by simp [lvlC, h]
theorem qAk {c : Nat} (h : preB c 1) (h1 : c / 1073741824 % 2 = 0) : lvlC c = 2 := by have := h.1 (by omega); simp [lvlC, h1, this]
theorem qAj {c : Nat} (h : preB c 2) (h1 : c / 536870912 % 2 = 0) : lvlC c = 3 := by have := h.1 (by omega); have := h.2.1 (by omega); simp [lvlC, *]
theorem qAi {c : Nat} (h : preB c 3) : lvlC c = 4 := by have := h.1 (by omega); have := h.2.1 (by omega); have := h.2.2 (by omega); simp [lvlC, *]
theorem qo5 (c : Nat) (h : c < 4294967296) : bits .and .u32 (c : Int) 1 = ((c % 2 : Nat) : Int) := by
 have := u32_and_nat c 1 h (by omega); rwa [Nat.and_one_is_mod] at this
theorem qiw (s : ByteArray) (hn : s.size ≤ 1000000) (w : World) : Calls prog 326 #[.string s] w fun e w' => e = .returned (.int .i64 (qgn s : Nat)) ∧ w = w' := by
 have hlt := qmu s; rw [qgn]; obtain ⟨c, hc⟩ : ∃ c, c = sumT s := ⟨_, rfl⟩; rw [← hc] at hlt ⊢; have b0 := qo5 (c / 2147483648) (by omega); have b1 := qo5 (c / 1073741824) (by omega); have b2 := qo5 (c / 536870912) (by omega); simp only [Int.natCast_ediv, Int.cast_ofNat_Int] at b0 b1 b2; have hcall : ∀ w, Calls prog 299 #[.string s] w fun e w' => e = .returned (.int .u32 (c : Nat)) ∧ w = w' := fun w => by rw [hc]; exact (qjq s w hn).mono (fun e w' h => ⟨h.1, h.2.symm⟩)
 clear hc; go_enter func326, ntmps326; go_wp2_with (go_at_call 299; refine (hcall _).mono ?_; rintro e w' ⟨rfl, rfl⟩); go_loop [4, 8] (fun v4 v8 => ∃ k : Nat, k ≤ 3 ∧ v8 = .int .i64 k ∧ v4 = .int .i64 (k + 1) ∧ preB c k) (fun _ v8 => 4 - (intOf v8).toNat)
 case atStart => exact ⟨0, Nat.zero_le _, rfl, rfl, by simp [preB]⟩
 case round =>
  obtain ⟨k, hk, rfl, rfl, hpre⟩ := hrel; rcases (by omega : k = 0 ∨ k = 1 ∨ k = 2 ∨ k = 3) with rfl | rfl | rfl | rfl
  · by_cases h0 : c / 2147483648 % 2 = 0
    · have z : ((c / 2147483648 % 2 : Nat) : Int) = 0 := by omega
      have zz := qAl h0; rw [z] at b0; clear b1 b2 z; go_wp2; go_ret; exact ⟨rfl, rfl⟩
    · have z : ((c / 2147483648 % 2 : Nat) : Int) = 1 := by omega
      rw [z] at b0; clear b1 b2 z; go_wp2_with fail; exact ⟨⟨1, by omega, by go_num, by go_num, ⟨fun _ => by omega, by omega, by omega⟩⟩, by first | (simp [intOf]; done) | (simp [intOf]; omega)⟩
  · have p1 := hpre.1 (by omega)
    by_cases h0 : c / 1073741824 % 2 = 0
    · have z : ((c / 1073741824 % 2 : Nat) : Int) = 0 := by omega
      have zz := qAk hpre h0; rw [z] at b1; clear b0 b2 z hpre; go_wp2; go_ret; exact ⟨rfl, rfl⟩
    · have z : ((c / 1073741824 % 2 : Nat) : Int) = 1 := by omega
      rw [z] at b1; clear b0 b2 z hpre; go_wp2_with fail; exact ⟨⟨2, by omega, by go_num, by go_num, ⟨fun _ => by omega, fun _ => by omega, by omega⟩⟩, by first | (simp [intOf]; done) | (simp [intOf]; omega)⟩
  · have p1 := hpre.1 (by omega)
    have p2 := hpre.2.1 (by omega); by_cases h0 : c / 536870912 % 2 = 0
    · have z : ((c / 536870912 % 2 : Nat) : Int) = 0 := by omega
      have zz := qAj hpre h0; rw [z] at b2; clear b0 b1 z hpre; go_wp2; go_ret; exact ⟨rfl, rfl⟩
    · have z : ((c / 536870912 % 2 : Nat) : Int) = 1 := by omega
      rw [z] at b2; clear b0 b1 z hpre; go_wp2_with fail; exact ⟨⟨3, by omega, by go_num, by go_num, ⟨fun _ => by omega, fun _ => by omega, fun _ => by omega⟩⟩, by first | (simp [intOf]; done) | (simp [intOf]; omega)⟩
  · have zz := qAi hpre
    clear hpre b0 b1 b2; go_wp2; go_ret; exact ⟨rfl, rfl⟩
end
section
open Go.RowKit
def Rise (l : List qa3) : Prop := l.Pairwise (fun x y => kl x.key y.key = true)
def posL (l : List qa3) (key : ByteArray) : Nat := l.findIdx (fun x => !kl x.key key)
def hasL (l : List qa3) (key : ByteArray) : Bool := l.any fun x => decide (x.key = key)
def setL (l : List qa3) (x : qa3) : List qa3 := l.filter (fun y => kl y.key x.key) ++ x :: l.filter (fun y => kl x.key y.key)
def qd9 (l : List qa3) (key : ByteArray) : List qa3 := l.filter (fun y => !decide (y.key = key))
def onLv (i : Nat) (y : qa3) : Bool := decide (i < qgn y.key)
def atLv (l : List qa3) (i : Nat) : List qa3 := l.filter (onLv i)
theorem qsq (a b : ByteArray) : kl a b = true ∨ a = b ∨ kl b a = true := by
 cases h : kl a b with
 | true => exact .inl rfl
 | false =>
  cases h' : kl b a with
  | true => exact .inr (.inr rfl)
  | false => exact .inr (.inl (qp0 h h'))
theorem qd7 {a b : ByteArray} (h : a = b) : kl a b = false := by subst h; exact qdh _
theorem qdo : ∀ (l : List qa3) (key : ByteArray), Rise l → ∃ A m B, l = A ++ (m ++ B) ∧ (∀ a ∈ A, kl a.key key = true) ∧ (∀ b ∈ B, kl key b.key = true) ∧ (m = [] ∨ ∃ y, m = [y] ∧ y.key = key)
 | [], key, _ => ⟨[], [], [], rfl, by simp, by simp, .inl rfl⟩
 | x :: l, key, h => by
  have h1 := List.pairwise_cons.1 h
  rcases qsq x.key key with hx | hx | hx
  · obtain ⟨A, m, B, e, hA, hB, hm⟩ := qdo l key h1.2
    exact ⟨x :: A, m, B, by rw [e]; rfl, by intro a ha; rcases List.mem_cons.1 ha with rfl | ha; exact hx; exact hA a ha, hB, hm⟩
  · exact ⟨[], [x], l, rfl, by simp, fun b hb => hx ▸ h1.1 b hb, .inr ⟨x, rfl, hx⟩⟩
  · exact ⟨[], [], x :: l, rfl, by simp, by intro b hb; rcases List.mem_cons.1 hb with rfl | hb; exact hx; exact qeh hx (h1.1 b hb), .inl rfl⟩
section
variable {A m B : List qa3} {key : ByteArray} (hA : ∀ a ∈ A, kl a.key key = true) (hB : ∀ b ∈ B, kl key b.key = true) (hm : m = [] ∨ ∃ y, m = [y] ∧ y.key = key)
include hA hB hm
theorem qke : posL (A ++ (m ++ B)) key = A.length := by
 unfold posL; rw [List.findIdx_append]; have e : List.findIdx (fun x : qa3 => !kl x.key key) A = A.length := by
  rw [List.findIdx_eq_length]; intro a ha; simp [hA a ha]
 rw [if_neg (by omega)]; have e2 : List.findIdx (fun x : qa3 => !kl x.key key) (m ++ B) = 0 := by
  rcases hm with rfl | ⟨y, rfl, hy⟩
  · cases B with
    | nil => rfl
    | cons b B => rw [List.nil_append, List.findIdx_cons, qei (hB b (by simp))]; rfl
  · rw [List.cons_append, List.findIdx_cons, qd7 hy]; rfl
 omega
theorem qkf : hasL (A ++ (m ++ B)) key = !m.isEmpty := by
 unfold hasL; rw [List.any_append, List.any_append]; have e1 : A.any (fun x => decide (x.key = key)) = false := by rw [List.any_eq_false]; intro a ha; simpa using qsr (hA a ha)
 have e2 : B.any (fun x => decide (x.key = key)) = false := by rw [List.any_eq_false]; intro b hb; simpa using (qsr (hB b hb)).symm
 rw [e1, e2]; rcases hm with rfl | ⟨y, rfl, hy⟩ <;> simp [*]
theorem qwt : (A ++ (m ++ B)).filter (fun y => kl y.key key) = A := by
 rw [List.filter_append, List.filter_append]; have e1 : A.filter (fun y => kl y.key key) = A := by rw [List.filter_eq_self]; exact hA
 have e2 : B.filter (fun y => kl y.key key) = [] := by rw [List.filter_eq_nil_iff]; intro b hb; simp [qei (hB b hb)]
 rw [e1, e2]; rcases hm with rfl | ⟨y, rfl, hy⟩
 · simp
 · simp [qd7 hy]
theorem qws : (A ++ (m ++ B)).filter (fun y => kl key y.key) = B := by
 rw [List.filter_append, List.filter_append]; have e1 : A.filter (fun y => kl key y.key) = [] := by rw [List.filter_eq_nil_iff]; intro b hb; simp [qei (hA b hb)]
 have e2 : B.filter (fun y => kl key y.key) = B := by rw [List.filter_eq_self]; exact hB
 rw [e1, e2]; rcases hm with rfl | ⟨y, rfl, hy⟩
 · simp
 · simp [qd7 hy.symm]
theorem qwu : qd9 (A ++ (m ++ B)) key = A ++ B := by
 unfold qd9; rw [List.filter_append, List.filter_append]; have e1 : A.filter (fun y => !decide (y.key = key)) = A := by rw [List.filter_eq_self]; intro a ha; simpa using qsr (hA a ha)
 have e2 : B.filter (fun y => !decide (y.key = key)) = B := by rw [List.filter_eq_self]; intro b hb; simpa using (qsr (hB b hb)).symm
 rw [e1, e2]; rcases hm with rfl | ⟨y, rfl, hy⟩ <;> simp [*]
theorem qhv {x : qa3} (hx : x.key = key) : setL (A ++ (m ++ B)) x = A ++ x :: B := by
 subst hx; rw [setL, qwt hA hB hm, qws hA hB hm]
end
theorem qvn {l : List qa3} {x : qa3} (h : Rise l) (hh : hasL l x.key = true) : posL l x.key < l.length ∧ setL l x = l.set (posL l x.key) x := by
 obtain ⟨A, m, B, rfl, hA, hB, hm⟩ := qdo l x.key h; rw [qkf hA hB hm] at hh; rw [qke hA hB hm, qhv hA hB hm rfl]; rcases hm with rfl | ⟨y, rfl, hy⟩
 · simp at hh
 · simp
theorem qvl {l : List qa3} {x : qa3} (h : Rise l) (hh : hasL l x.key = false) : posL l x.key ≤ l.length ∧ setL l x = ins l (posL l x.key) x := by
 obtain ⟨A, m, B, rfl, hA, hB, hm⟩ := qdo l x.key h; rw [qkf hA hB hm] at hh; rw [qke hA hB hm, qhv hA hB hm rfl]; rcases hm with rfl | ⟨y, rfl, hy⟩
 · simp [ins]
 · simp at hh
theorem qth {l : List qa3} {key : ByteArray} (h : Rise l) (hh : hasL l key = true) : posL l key < l.length ∧ qd9 l key = l.take (posL l key) ++ l.drop (posL l key + 1) := by
 obtain ⟨A, m, B, rfl, hA, hB, hm⟩ := qdo l key h; rw [qkf hA hB hm] at hh; rw [qke hA hB hm, qwu hA hB hm]; rcases hm with rfl | ⟨y, rfl, hy⟩
 · simp at hh
 · simp
theorem qj6 {l : List qa3} {key : ByteArray} (hh : hasL l key = false) : qd9 l key = l := by
 unfold qd9; rw [List.filter_eq_self]; intro a ha; rw [hasL, List.any_eq_false] at hh; simpa using hh a ha
theorem qvo {l : List qa3} (h : Rise l) (x : qa3) : Rise (setL l x) := by
 obtain ⟨A, m, B, rfl, hA, hB, hm⟩ := qdo l x.key h; rw [qhv hA hB hm rfl]; unfold Rise at h ⊢; rw [List.pairwise_append] at h ⊢; refine ⟨h.1, ?_, ?_⟩
 · rw [List.pairwise_cons]
   exact ⟨fun b hb => hB b hb, (List.pairwise_append.1 h.2.1).2.1⟩
 · intro a ha b hb
   rcases List.mem_cons.1 hb with rfl | hb
   · exact hA a ha
   · exact h.2.2 a ha b (by simp [hb])
theorem qhe {l : List qa3} (h : Rise l) (p : qa3 → Bool) : Rise (l.filter p) := List.Pairwise.filter p h
theorem qrz {l : List qa3} (h : Rise l) (key : ByteArray) : Rise (qd9 l key) := qhe h _
theorem qhd {l : List qa3} (h : Rise l) (i : Nat) : Rise (atLv l i) := qhe h _
theorem qAm {l : List qa3} (h : Rise l) (x : qa3) (i : Nat) : atLv (setL l x) i = if i < qgn x.key then setL (atLv l i) x else atLv l i := by
 obtain ⟨A, m, B, rfl, hA, hB, hm⟩ := qdo l x.key h; rw [qhv hA hB hm rfl]; unfold atLv; have e : (A ++ (m ++ B)).filter (onLv i) = A.filter (onLv i) ++ (m.filter (onLv i) ++ B.filter (onLv i)) := by simp
 rw [e, List.filter_append, List.filter_cons]; split
 · rename_i hi
   rw [if_pos (by simpa [onLv] using hi), qhv (key := x.key) (fun a ha => hA a (List.mem_filter.1 ha).1) (fun b hb => hB b (List.mem_filter.1 hb).1) ?_ rfl]; rcases hm with rfl | ⟨y, rfl, hy⟩
   · simp
   · right
     exact ⟨y, by rw [List.filter_cons, if_pos (by simpa [onLv, hy] using hi)]; rfl, hy⟩
 · rename_i hi
   rw [if_neg (by simpa [onLv] using hi)]; rcases hm with rfl | ⟨y, rfl, hy⟩
   · simp
   · rw [List.filter_cons, if_neg (by simpa [onLv, hy] using hi)]; simp
theorem qsh (l : List qa3) (key : ByteArray) (i : Nat) : atLv (qd9 l key) i = qd9 (atLv l i) key := by
 unfold atLv qd9; rw [List.filter_filter, List.filter_filter]; congr 1; funext y; rw [Bool.and_comm]
theorem qlk {l : List qa3} {key : ByteArray} {i : Nat} (hi : ¬ i < qgn key) : atLv (qd9 l key) i = atLv l i := by
 rw [qsh]; refine qj6 ?_; rw [hasL, List.any_eq_false]; intro x hx; have := (List.mem_filter.1 hx).2; simp [onLv] at this; simp; rintro rfl; exact hi this
theorem qy7 {l : List qa3} {key : ByteArray} {i : Nat} (hi : i < qgn key) : hasL (atLv l i) key = hasL l key := by
 unfold hasL atLv; rw [List.any_filter]; congr 1; funext x; by_cases e : x.key = key
 · simp [e, onLv, hi]
 · simp [e]
theorem qvm (l : List qa3) (x : qa3) : (setL l x).length ≤ l.length + 1 := by
 unfold setL; rw [List.length_append, List.length_cons]; have : ∀ l : List qa3, (l.filter (fun y => kl y.key x.key)).length + (l.filter (fun y => kl x.key y.key)).length ≤ l.length := by
  intro l; induction l with
  | nil => simp
  | cons a l ih =>
   rw [List.filter_cons, List.filter_cons]; cases h1 : kl a.key x.key with
   | true => rw [qei h1]; simp; omega
   | false =>
    cases h2 : kl x.key a.key with
    | true => simp; omega
    | false => simp; omega
 have := this l; omega
theorem qtg (l : List qa3) (key : ByteArray) : (qd9 l key).length ≤ l.length := List.length_filter_le _ _
theorem qy2 (l : List qa3) (i : Nat) : (atLv l i).length ≤ l.length := List.length_filter_le _ _
end
section
open Go.RowKit
theorem qgv (x : qa3) (key : ByteArray) (w : World) : Calls prog 349 #[.agg #[.string x.key, .int .u64 x.id, .int .u64 x.ver, .int .i64 x.line, .int .i64 x.cls], .string key] w fun e w' => e = .returned (.int .i64 (cmpB x.key key)) ∧ Below w.heap.size w w' := by
 go_enter func349, ntmps349; go_wp2_with (go_at_call 96; refine (qtj _ _ _).mono ?_; rintro e w' ⟨rfl, rfl⟩); go_ret; exact ⟨rfl, (by repeat (first | exact Below.refl _ _ | assumption | refine Below.drew ?_ | refine qa1 ?_ _ | refine Below.alloc ?_ (by first | omega | simp <;> omega) _ | refine Below.setCell ?_ (by first | omega | simp <;> omega) _))⟩
theorem qyr {l : List qa3} {key : ByteArray} {i : Nat} (h1 : ∀ q, (hq : q < l.length) → q < i → kl l[q].key key = true) (h2 : ∀ q, (hq : q < l.length) → i ≤ q → kl l[q].key key = false) (hi : i ≤ l.length) : posL l key = i := by
 unfold posL; by_cases hlt : i < l.length
 · rw [List.findIdx_eq hlt]
   exact ⟨by simp [h2 i hlt (Nat.le_refl _)], fun j hj => by simp [h1 j (by omega) hj]⟩
 · obtain rfl : i = l.length := by omega
   rw [List.findIdx_eq_length]; intro x hx; obtain ⟨q, hq, rfl⟩ := List.mem_iff_getElem.1 hx; simp [h1 q hq hq]
theorem qry {l : List qa3} (h : Rise l) {i j : Nat} (hj : j < l.length) (hij : i < j) : kl (l[i]'(by omega)).key l[j].key = true := List.pairwise_iff_getElem.1 h i j (by omega) hj hij
theorem qzc {l : List qa3} (h : Rise l) {key : ByteArray} {i : Nat} (hp : posL l key = i) : hasL l key = decide (∃ hi : i < l.length, l[i].key = key) := by
 subst hp; obtain ⟨A, m, B, rfl, hA, hB, hm⟩ := qdo l key h; rw [qkf hA hB hm]; have hp := qke hA hB hm; rcases hm with rfl | ⟨y, rfl, hy⟩
 · symm
   simp only [List.isEmpty_nil, Bool.not_true, decide_eq_false_iff_not, hp]; rintro ⟨hi, he⟩; cases B with
   | nil => simp at hi
   | cons b B => simp at he; exact qsr (hB b (by simp)) he.symm
 · symm
   simp only [List.isEmpty_cons, Bool.not_false, decide_eq_true_eq, hp]; exact ⟨by simp, by simpa using hy⟩
theorem qq1 (l : List qa3) (hl : Rise l) (A : Option Addr) (c : Nat) (key : ByteArray) (w : World) (hA : Arr qa3.enc 5 w w.heap.size A l) (_hc : l.length ≤ c) (_hm : c ≤ 9223372036854775807) (hb : l.length ≤ 100000) :
 Calls prog 348 #[.slice A l.length c, .string key, .func (.func 349) #[] #[]] w fun e w' => e = .returned (.tuple #[.int .i64 (posL l key : Nat), .bool (hasL l key)]) ∧ Below w.heap.size w w' := by
 have HA := hid hA; have HL := hid hl; clear hA hl; go_enter func348, ntmps348; go_wp2_with fail; go_loopw [9, 10] (fun vi vj wr => ∃ i j : Nat, vi = .int .i64 i ∧ vj = .int .i64 j ∧ i ≤ j ∧ j ≤ l.length ∧ Below w.heap.size w wr ∧ Hid (∀ q, (hq : q < l.length) → q < i → kl l[q].key key = true) ∧ Hid (∀ q, (hq : q < l.length) → j ≤ q → kl l[q].key key = false)) (fun vi vj _ => (intOf vj).toNat - (intOf vi).toNat)
 case atStart => exact ⟨0, l.length, rfl, rfl, Nat.zero_le _, Nat.le_refl _, Below.refl _ _, hid fun _ _ h => absurd h (by omega), hid fun _ h h' => absurd h (by omega)⟩
 case round =>
  obtain ⟨i, j, rfl, rfl, hij, hjn, hbw, h1, h2⟩ := hrel; have hbs := hbw.size; by_cases hlt : i < j
  · obtain ⟨h, hh⟩ : ∃ h, h = (i + j) / 2 := ⟨_, rfl⟩
    have hhl : h < l.length := by omega
    have hih : i ≤ h := by omega
    have hhj : h < j := by omega
    have e1 : IntKind.u64.wrap ((i : Int) + (j : Int)) = (i : Int) + j := by rw [IntKind.wrap_u64]; omega
    have e2 : ((i : Int) + (j : Int)) / 2 = (h : Int) := by omega
    clear hh; obtain ⟨b, off, rfl, hB, c0, c1, c2, c3, c4⟩ := (HA.out.below hbw).link hhl; cases hk : kl l[h].key key with
    | true =>
     have e3 : cmpB l[h].key key = -1 := by rw [qhw, if_pos hk]
     go_wp2_with (go_at_call 349; refine (qgv l[h] key _).mono ?_; rintro e w' ⟨rfl, hb4⟩; rw [e3]); go_roundw
     case rel =>
      refine ⟨h + 1, j, by go_num, rfl, by omega, hjn, hbw.trans (hb4.mono hbs), hid fun q hq hlt => ?_, h2⟩; rcases (by omega : q < h ∨ q = h) with hqh | rfl
      · exact qeh (qry HL.out hhl hqh) hk
      · exact hk
     case measure => simp [intOf]; omega
    | false =>
     have e3 : 0 ≤ cmpB l[h].key key := by rw [qhw, hk]; simp only [Bool.false_eq_true, if_false]; split <;> omega
     go_wp2_with (go_at_call 349; refine (qgv l[h] key _).mono ?_; rintro e w' ⟨rfl, hb4⟩); go_roundw
     case rel =>
      refine ⟨i, h, rfl, by go_num, hih, by omega, hbw.trans (hb4.mono hbs), h1, hid fun q hq hlt => ?_⟩; rcases (by omega : h < q ∨ q = h) with hqh | rfl
      · cases e : kl l[q].key key with
        | false => rfl
        | true => have := qeh (qry HL.out hq hqh) e; rw [hk] at this; cases this
      · exact hk
     case measure => simp [intOf]; omega
  · obtain rfl : i = j := by omega
    have hp : posL l key = i := qyr h1.out h2.out hjn; have hh := qzc HL.out hp; have HP := hid hp; by_cases hin : i < l.length
    · obtain ⟨b, off, rfl, hB, c0, c1, c2, c3, c4⟩ := (HA.out.below hbw).link hin
      by_cases hek : l[i].key = key
      · have e3 : cmpB l[i].key key = 0 := by rw [qhw, hek, qdh]; rfl
        have hh' : hasL l key = true := by rw [hh]; exact decide_eq_true ⟨hin, hek⟩
        have HH := hid hh'; clear hh hek hp hh'; go_wp2_with (go_at_call 349; refine (qgv l[i] key _).mono ?_; rintro e w' ⟨rfl, hb4⟩; rw [e3]); refine bodyPost_ret (v := .tuple #[.int .i64 (i : Nat), .bool true]) (by simp [results, results348, go_sem]) rfl ?_; exact ⟨by rw [HP.out, HH.out], hbw.trans (hb4.mono hbs)⟩
      · have e3 : (cmpB l[i].key key == 0) = false := by
         rw [qhw]; rcases qsq l[i].key key with h | h | h
         · simp [h]
         · exact absurd h hek
         · simp [h, qei h]
        have hh' : hasL l key = false := by rw [hh]; exact decide_eq_false fun ⟨_, h⟩ => hek h
        have HH := hid hh'; clear hh hek hp hh'; go_wp2_with (go_at_call 349; refine (qgv l[i] key _).mono ?_; rintro e w' ⟨rfl, hb4⟩); refine bodyPost_ret (v := .tuple #[.int .i64 (i : Nat), .bool false]) (by simp [results, results348, go_sem]) rfl ?_; exact ⟨by rw [HP.out, HH.out], hbw.trans (hb4.mono hbs)⟩
    · have hh' : hasL l key = false := by rw [hh]; exact decide_eq_false fun ⟨h, _⟩ => hin h
      have HH := hid hh'; clear hh hp hh'; go_wp2; refine bodyPost_ret (v := .tuple #[.int .i64 (i : Nat), .bool false]) (by simp [results, results348, go_sem]) rfl ?_; exact ⟨by rw [HP.out, HH.out], hbw⟩
theorem qli (l : List qa3) (hl : Rise l) (A : Option Addr) (c : Nat) (key : ByteArray) (w : World) (hA : Arr qa3.enc 5 w w.heap.size A l) (hc : l.length ≤ c) (hm : c ≤ 9223372036854775807) (hb : l.length ≤ 100000) :
 Calls prog 312 #[.slice A l.length c, .string key] w fun e w' => e = .returned (.tuple #[.int .i64 (posL l key : Nat), .bool (hasL l key)]) ∧ Below w.heap.size w w' := by
 have HA := hid hA; clear hA; go_enter func312, ntmps312; go_wp2_with (go_at_call 348; refine (qq1 l hl _ c key _ HA.out hc hm hb).mono ?_; rintro e w' ⟨rfl, hb4⟩); refine bodyPost_ret (v := .tuple #[.int .i64 (posL l key : Nat), .bool (hasL l key)]) (by simp [results, results312, go_sem]) rfl ?_; exact ⟨rfl, hb4⟩
end
end Go.Proofs.YtecikkjbnkhhkaaGreat
