/- A part of the walk. -/
import Derived.Test.YtecikkjbnkhhkaaGreatP02
namespace Go.Proofs.YtecikkjbnkhhkaaGreat
open _root_.Go.Proofs.Tryz
set_option maxHeartbeats 2000000
set_option maxRecDepth 100000
section
open Go.RowKit
def qa9 (c : Int) : Nat := if c = 0 then 1 else if c = 1 then 2 else if c = 2 then 4 else if c = 3 then 8 else 0
def capI (c : Int) : Nat := if c = 0 then 28 else if c = 1 then 91 else if c = 2 then 217 else if c = 3 then 469 else 0
theorem qm5 (c : Int) : c = 0 ∨ c = 1 ∨ c = 2 ∨ c = 3 ∨ (c < 0 ∨ 3 < c) := by omega
theorem qe1 {c : Int} (h : c < 0 ∨ 3 < c) : qa9 c = 0 := by
 unfold qa9; rw [if_neg (by omega), if_neg (by omega), if_neg (by omega), if_neg (by omega)]
theorem qx3 {c : Int} (h : c < 0 ∨ 3 < c) : capI c = 0 := by
 unfold capI; rw [if_neg (by omega), if_neg (by omega), if_neg (by omega), if_neg (by omega)]
theorem qaw (c : Int) (w : World) : Calls prog 129 #[.int .i64 c] w fun e w' => e = .returned (.int .i64 (qa9 c : Nat)) ∧ w' = w := by
 rcases qm5 c with rfl | rfl | rfl | rfl | h
 iterate 4
  · go_enter func129, ntmps129
    go_wp2_with fail; go_ret; exact ⟨rfl, rfl⟩
 · rw [qe1 h]
   by_cases h0 : c < 0
   · go_enter func129, ntmps129
     go_wp2_with fail; go_ret; exact ⟨rfl, rfl⟩
   · have h1 : 3 < c := by omega
     go_enter func129, ntmps129; go_wp2_with fail; go_ret; exact ⟨rfl, rfl⟩
theorem qo0 (c : Int) (w : World) : Calls prog 174 #[.int .i64 c] w fun e w' => e = .returned (.int .i64 (capI c : Nat)) ∧ w' = w := by
 rcases qm5 c with rfl | rfl | rfl | rfl | h
 iterate 4
  · go_enter func174, ntmps174
    go_wp2_with fail; refine (qaw _ w).mono ?_; rintro e w2 ⟨rfl, rfl⟩; simp only [show qa9 0 = 1 from rfl, show qa9 1 = 2 from rfl, show qa9 2 = 4 from rfl, show qa9 3 = 8 from rfl]; go_wp2_with fail; go_ret; exact ⟨rfl, rfl⟩
 · rw [qx3 h]
   have h0 := qe1 h; go_enter func174, ntmps174; go_wp2_with fail; refine (qaw _ w).mono ?_; rintro e w2 ⟨rfl, rfl⟩; rw [h0]; go_wp2_with fail; go_ret; exact ⟨rfl, rfl⟩
def qbh (n : Int) : Int := if n < 0 then -1 else if n ≤ 28 then 0 else if n ≤ 91 then 1 else if n ≤ 217 then 2 else if n ≤ 469 then 3 else -1
theorem qyz {n : Int} {k : Nat} (hk : k < 4) (hn : 0 ≤ n) (h : ∀ j : Nat, j < k → (capI j : Int) < n) (h1 : n ≤ capI k) : qbh n = k := by
 have c0 : capI (0 : Nat) = 28 := rfl; have c1 : capI (1 : Nat) = 91 := rfl; have c2 : capI (2 : Nat) = 217 := rfl; have c3 : capI (3 : Nat) = 469 := rfl; unfold qbh; rcases (by omega : k = 0 ∨ k = 1 ∨ k = 2 ∨ k = 3) with rfl | rfl | rfl | rfl
 · rw [if_neg (by omega), if_pos (by omega)]; rfl
 · have := h 0 (by omega)
   rw [if_neg (by omega), if_neg (by omega), if_pos (by omega)]; rfl
 · have := h 1 (by omega)
   rw [if_neg (by omega), if_neg (by omega), if_neg (by omega), if_pos (by omega)]; rfl
 · have := h 2 (by omega)
   rw [if_neg (by omega), if_neg (by omega), if_neg (by omega), if_neg (by omega), if_pos (by omega)]; rfl
theorem qsb {n : Int} (h : ∀ j : Nat, j < 4 → (capI j : Int) < n) : qbh n = -1 := by
 have c3 : capI (3 : Nat) = 469 := rfl; have := h 3 (by omega); unfold qbh; rw [if_neg (by omega), if_neg (by omega), if_neg (by omega), if_neg (by omega), if_neg (by omega)]
theorem qf5 (n : Int) (w : World) : Calls prog 226 #[.int .i64 n] w fun e w' => e = .returned (.int .i64 (qbh n)) ∧ w' = w := by
 by_cases h : n < 0
 · have h1 : qbh n = -1 := by unfold qbh; rw [if_pos h]
   rw [h1]; go_enter func226, ntmps226; go_wp2_with fail; go_ret; exact ⟨rfl, rfl⟩
 · go_enter func226, ntmps226
   go_wp2_with fail; go_loopw [3, 6] (fun _ v6 wr => ∃ k : Nat, k ≤ 4 ∧ v6 = .int .i64 k ∧ wr = w ∧ ∀ j : Nat, j < k → (capI j : Int) < n) (fun _ v6 _ => 4 - (intOf v6).toNat)
   case atStart => exact ⟨0, by omega, rfl, rfl, fun j hj => absurd hj (by omega)⟩
   case round =>
    obtain ⟨k, hk, rfl, rfl, hall⟩ := hrel; have HALL := hid hall; clear hall; by_cases hlt : k < 4
    · have hlti : (k : Int) < 4 := by omega
      go_wp2_with fail; refine (qo0 _ _).mono ?_; rintro e w2 ⟨rfl, rfl⟩; by_cases hn : n ≤ capI k
      · have he := hid (qyz hlt (by omega) HALL.out hn)
        go_wp2_with fail; go_ret; exact ⟨by rw [he.out]; rfl, rfl⟩
      · go_wp2_with fail
        exact ⟨⟨k + 1, by omega, by go_num, trivial, fun j hj => by
         rcases (by omega : j < k ∨ j = k) with h1 | rfl
         · exact HALL.out j h1
         · omega⟩, by simp [intOf]; omega⟩
    · obtain rfl : k = 4 := by omega
      have he := hid (qsb HALL.out); go_wp2_with fail; go_ret; exact ⟨by rw [he.out]; rfl, rfl⟩
def qha (k : Int) : Int := if k < 0 ∨ 32 ≤ k then -1 else 2 + k * 8
theorem qjs (k : Int) (w : World) : Calls prog 337 #[.int .i64 k] w fun e w' => e = .returned (.int .i64 (qha k)) ∧ w' = w := by
 by_cases h0 : k < 0
 · have h1 : qha k = -1 := by unfold qha; rw [if_pos (.inl h0)]
   rw [h1]; go_enter func337, ntmps337; go_wp2_with fail; go_ret; exact ⟨rfl, rfl⟩
 · by_cases h2 : 32 ≤ k
   · have h1 : qha k = -1 := by unfold qha; rw [if_pos (.inr h2)]
     rw [h1]; go_enter func337, ntmps337; go_wp2_with fail; go_ret; exact ⟨rfl, rfl⟩
   · have h1 : qha k = 2 + k * 8 := by unfold qha; rw [if_neg (by omega)]
     rw [h1]; have i1 : IntKind.i64.wrap (k * 8) = k * 8 := Go.IntWalk.i64_in _ (by omega); have i2 : IntKind.i64.wrap (2 + k * 8) = 2 + k * 8 := Go.IntWalk.i64_in _ (by omega); go_enter func337, ntmps337; go_wp2_with fail; go_ret; exact ⟨rfl, rfl⟩
def qcc (l : Int) : Int := if l < 2 ∨ 258 ≤ l then -1 else (l - 2) / 8
theorem qfo (l : Int) (w : World) : Calls prog 321 #[.int .i64 l] w fun e w' => e = .returned (.int .i64 (qcc l)) ∧ w' = w := by
 by_cases h0 : l < 2
 · have h1 : qcc l = -1 := by unfold qcc; rw [if_pos (.inl h0)]
   rw [h1]; go_enter func321, ntmps321; go_wp2_with fail; go_ret; exact ⟨rfl, rfl⟩
 · by_cases h2 : 258 ≤ l
   · have h1 : qcc l = -1 := by unfold qcc; rw [if_pos (.inr h2)]
     rw [h1]; go_enter func321, ntmps321; go_wp2_with fail; go_ret; exact ⟨rfl, rfl⟩
   · have h1 : qcc l = (l - 2) / 8 := by unfold qcc; rw [if_neg (by omega)]
     rw [h1]; have i1 : IntKind.i64.wrap (l - 2) = l - 2 := Go.IntWalk.i64_in _ (by omega); have i2 : (l - 2).tdiv 8 = (l - 2) / 8 := Int.tdiv_eq_ediv_of_nonneg (by omega); go_enter func321, ntmps321; go_wp2_with fail; go_ret; exact ⟨rfl, rfl⟩
end
section
open Go.RowKit
def numE (n : Nat) : List Value := [.int .i64 (n : Int)]
theorem qjz (n : Nat) : (numE n).length = 1 := rfl
theorem qvv (n : Nat) : ∀ u ∈ numE n, u.oneCell' = true := by intro u hu; simp [numE] at hu; subst hu; rfl
theorem qk9 : (prog.info? 3).map (fun i => (i.zero, i.size, i.bytes)) = some (some (.int .i64 0), 1, 8) := by kernel_rfl
theorem qzp {ops : Array Oper} {rest : List Oper} {o : Oper} {a : Act} {Q : Exit → Act → World → Prop} (w : World) (hgd : o.guard = none) (s x : Operand)
 (ho : o.op = .call { callee := .builtin .append, args := #[s, x], argTypes := #[23, 23] }) {lo : Nat} {A : Option Addr} {c : Nat} {l : List Nat} (hs : a.eval s = .slice A l.length c) (own : Own numE 3 1 w lo A c l)
 {B : Nat} {A2 : Option Addr} {m : List Nat} (c2 : Nat) (hx : a.eval x = .slice A2 m.length c2) (arr : Arr numE 1 w B A2 m) (hb : l.length + m.length ≤ 1000000) (hlo : lo ≤ w.heap.size)
 (h : ∀ A' c' w', Own numE 3 1 w' lo A' c' (l ++ m) → w.grownBy w' (qa8 A c) → (A' = A ∧ c' = c ∨ ∃ g, A' = some ⟨g, 0, none⟩ ∧ w.heap.size ≤ g) → wpList prog ops Q rest (a.put o.dst (.slice A' (l.length + m.length) c')) w') :
 wpList prog ops Q (o :: rest) a w := by
 obtain ⟨i0, hi, hz0, hz1, hz2⟩ := info_parts qk9; exact qar w hgd s x 23 ho i0 _ 8 underlying23 hi hz0 hz1 hz2 rfl (by decide) qjz qvv hs own c2 hx arr (by unfold maxLen; omega) (by omega) hlo h
theorem qr6 {w : World} {vb : Nat} {x : Nat} (hv : w.heap[vb]? = some (.cells #[.int .i64 (x : Int)] 3 (0, 0))) : Arr numE 1 w w.heap.size (some ⟨vb, 0, none⟩) [x] := by
 refine Arr.of_cells qjz ?_ fun j u hu => ?_
 · exact qa0 hv
 · rw [Nat.zero_add, cell_of_row w vb j _ _ _ hv]
   simpa [numE] using hu
theorem qck {α : Type} {enc : α → List Value} {e : TypeId} {k : Nat} {W W' w : World} {lo : Nat} {A : Option Addr} {c : Nat} {l : List α} (h : Own enc e k W lo A c l) (hg : W.grownBy W' (qa8 A c)) (hb : Below lo w W) (hlo : lo ≤ W.heap.size) : Below lo w W' := by
 refine hb.grown hg hlo (fun q hq => ?_); unfold qa8 at hq; split at hq
 · cases hq
 · rcases h.lt with h0 | ⟨b, off, rfl, hl, -⟩
   · contradiction
   · cases hq
     exact hl
def qb1 (k : Nat) (c : Int) : List Nat := if qa9 c = 0 ∨ 32 ≤ k then [] else (List.range (8 / qa9 c)).map fun i => 2 + k * 8 + i * qa9 c
theorem qet (c : Int) : qa9 c = 0 ∨ qa9 c = 1 ∨ qa9 c = 2 ∨ qa9 c = 4 ∨ qa9 c = 8 := by
 rcases qm5 c with rfl | rfl | rfl | rfl | h
 · exact .inr (.inl rfl)
 · exact .inr (.inr (.inl rfl))
 · exact .inr (.inr (.inr (.inl rfl)))
 · exact .inr (.inr (.inr (.inr rfl)))
 · exact .inl (qe1 h)
def qum (l : List Nat) (w : World) (e : Ending) (w' : World) : Prop := ∃ A c, e = .returned (.slice A l.length c) ∧ Own numE 3 1 w' w.heap.size A c l ∧ Below w.heap.size w w'
theorem qpw (k : Nat) (c : Int) (w : World) (hk : k < 32) : Calls prog 320 #[.int .i64 (k : Int), .int .i64 c] w (qum (qb1 k c) w) := by
 by_cases h0 : qa9 c = 0
 · have hs : qb1 k c = [] := by unfold qb1; rw [if_pos (.inl h0)]
   rw [hs]; go_enter func320, ntmps320; go_wp2_with fail; refine (qaw c w).mono ?_; rintro e w1 ⟨rfl, rfl⟩; rw [h0]; go_wp2_with fail; refine (qjs k w1).mono ?_; rintro e w2 ⟨rfl, rfl⟩; go_wp2_with fail; go_ret; exact ⟨none, 0, rfl, Own.none_, Below.refl _ _⟩
 · obtain ⟨n, hn, hn1, hn8, hdv⟩ : ∃ n, n = qa9 c ∧ 1 ≤ n ∧ n ≤ 8 ∧ (8 / n) * n = 8 := by
    rcases qet c with h | h | h | h | h
    · exact absurd h h0
    all_goals exact ⟨_, rfl, by omega, by omega, by rw [h]⟩
   have hs : qb1 k c = (List.range (8 / n)).map fun i => 2 + k * 8 + i * n := by unfold qb1; rw [if_neg (by omega), hn]
   have hsl : qha k = 2 + (k : Int) * 8 := by unfold qha; rw [if_neg (by omega)]
   have HS := hid hs; have HN := hid hn; have HSL := hid hsl; have HDV := hid hdv; have h0n : ¬ n = 0 := by omega
   have hne : ((n : Int) == 0) = false := by rw [beq_eq_false_iff_ne]; omega
   have hn0 : ¬ (n : Int) = 0 := by omega
   obtain ⟨q, hq⟩ : ∃ q, q = 8 / n := ⟨_, rfl⟩; rw [← hq] at HS HDV; have hdb : q ≤ 8 := by rw [hq]; exact Nat.div_le_self _ _
   have hdi : (8 : Int) / (n : Int) = (q : Int) := by rw [hq]; rfl
   have HDI := hid hdi; clear hq hdi; clear hs hn hsl hdv h0; go_enter func320, ntmps320; go_wp2_with fail; refine (qaw c w).mono ?_; rintro e w1 ⟨rfl, rfl⟩; rw [← HN.out]; go_wp2_with fail; refine (qjs k w1).mono ?_; rintro e w2 ⟨rfl, rfl⟩; rw [HSL.out]; have hf0 : ¬ 2 + (k : Int) * 8 < 0 := by omega
   go_wp2_with fail; rw [HDI.out]; clear hf0 hne hn0; have hq8 : q * n = 8 := HDV.out; go_loopw [7, 8, 21] (fun v7 _ v21 wr => ∃ (j : Nat) (A : Option Addr) (ca : Nat), j ≤ q ∧ v21 = .int .i64 j ∧ v7 = .slice A ((List.range j).map fun i => 2 + k * 8 + i * n).length ca ∧ Own numE 3 1 wr w2.heap.size A ca ((List.range j).map fun i => 2 + k * 8 + i * n) ∧ Below w2.heap.size w2 wr) (fun _ _ v21 _ => q - (intOf v21).toNat)
   case atStart => exact ⟨0, none, 0, by omega, rfl, rfl, Own.none_, Below.refl _ _⟩
   case round =>
    obtain ⟨j, A, ca, hj, rfl, rfl, hown, hb⟩ := hrel; have HO := hid hown; have HB := hid hb; by_cases hlt : j < q
    · have hlti : (j : Int) < (q : Int) := by omega
      have hjn : j * n ≤ 8 := by rw [← hq8]; exact Nat.mul_le_mul_right _ (by omega)
      have i1 : IntKind.i64.wrap ((j : Int) * (n : Int)) = ((j * n : Nat) : Int) := by rw [← Int.natCast_mul]; exact Go.IntWalk.i64_in _ (by omega)
      have i2 : IntKind.i64.wrap (2 + (k : Int) * 8 + ((j * n : Nat) : Int)) = ((2 + k * 8 + j * n : Nat) : Int) := by rw [show 2 + (k : Int) * 8 + ((j * n : Nat) : Int) = ((2 + k * 8 + j * n : Nat) : Int) by omega]; exact Go.IntWalk.i64_in _ (by omega)
      have hsz := hb.size; clear hown hb; go_wp2_with (at_builtin; refine qzp (l := (List.range j).map fun i => 2 + k * 8 + i * n) (m := [2 + k * 8 + j * n]) (A := A) (c := ca) (lo := w2.heap.size) _ rfl (.tmp 24) (.tmp 30) (by first | rfl | simp [Act.eval]) (by first | rfl | simp [Act.eval]) (HO.out.alloc _) 1 (by first | rfl | simp [Act.eval]) (qr6 (vb := wr.heap.size) (x := 2 + k * 8 + j * n) (by rw [qa2, if_pos rfl]; push_cast; rfl)) (by simp; omega) (by simp; omega) ?_; intro A' c' w' hown' hgr hloc); refine ⟨⟨j + 1, A', c', by omega, by go_num, by simp, ?_, qck (HO.out.alloc _) hgr (HB.out.alloc (by omega) _) (by simp; omega)⟩, by simp [intOf]; omega⟩; rw [List.range_succ, List.map_append]; exact hown'
    · obtain rfl : j = q := by omega
      go_wp2_with fail; go_ret; rw [HS.out]; exact ⟨A, ca, rfl, HO.out, HB.out⟩
end
section
open Go.RowKit
theorem Arr.num1 {w : World} {B : Nat} {A : Option Addr} {l : List Nat} (h : Arr numE 1 w B A l) {i : Nat} (hi : i < l.length) : ∃ b off, A = some ⟨b, off, none⟩ ∧ b < B ∧ w.cell? ⟨b, off + i, none⟩ = some (.int .i64 (l[i] : Int)) := by
 rcases h with rfl | ⟨b, off, rfl, hB, hc⟩
 · simp at hi
 · exact ⟨b, off, rfl, hB, by simpa using hc i hi 0 _ rfl⟩
def qxs (l : List Nat) (x : Int) (w : World) (e : Ending) (w' : World) : Prop := w' = w ∧ ∃ r : Int, e = .returned (.int .i64 r) ∧ ((r = -1 ∧ ∀ j (h : j < l.length), ¬ x = (l[j] : Int)) ∨ ∃ k, ∃ h : k < l.length, r = k ∧ x = (l[k] : Int))
theorem qsv (l : List Nat) (x : Int) (A : Option Addr) (c : Nat) (w : World) (hA : Arr numE 1 w w.heap.size A l) (hc : l.length ≤ c) (hm : c ≤ 9223372036854775807) : Calls prog 152 #[.slice A l.length c, .int .i64 x] w (qxs l x w) := by
 have HA := hid hA; clear hA; go_enter func152, ntmps152; go_wp2_with fail; go_loopw [5, 8] (fun _ v8 wr => ∃ k : Nat, k ≤ l.length ∧ v8 = .int .i64 k ∧ wr = w ∧ ∀ j (h : j < l.length), j < k → ¬ x = (l[j] : Int)) (fun _ v8 _ => l.length - (intOf v8).toNat)
 case atStart => exact ⟨0, by omega, rfl, rfl, fun j _ hj => absurd hj (by omega)⟩
 case round =>
  obtain ⟨k, hk, rfl, rfl, hall⟩ := hrel; have HALL := hid hall; clear hall; by_cases hlt : k < l.length
  · have hlti : (k : Int) < (l.length : Int) := by omega
    obtain ⟨b, off, rfl, hB, c0⟩ := HA.out.num1 hlt; by_cases hx : x = (l[k] : Int)
    · have hxe : (x == (l[k] : Int)) = true := by rw [beq_iff_eq]; exact hx
      have HX := hid hx; clear hx; go_wp2_with fail; go_ret; exact ⟨rfl, _, rfl, .inr ⟨k, hlt, rfl, HX.out⟩⟩
    · have hxe : (x == (l[k] : Int)) = false := by rw [beq_eq_false_iff_ne]; exact hx
      have HX := hid hx; clear hx; go_wp2_with fail; exact ⟨⟨k + 1, by omega, by go_num, trivial, fun j hj hjk => by
       rcases (by omega : j < k ∨ j = k) with h1 | rfl
       · exact HALL.out j hj h1
       · exact HX.out⟩, by simp [intOf]; omega⟩
  · obtain rfl : k = l.length := by omega
    go_wp2_with fail; go_ret; exact ⟨rfl, _, rfl, .inl ⟨rfl, fun j hj => HALL.out j hj hj⟩⟩
end
section
open Go.RowKit
structure EntC where
 line : Int
 cls : Int
 r : Nat
 d : Nat
 anti : Int
def EntC.enc (x : EntC) : List Value := [.int .i64 x.line, .int .i64 x.cls, .int .u64 (x.r : Int), .int .u64 (x.d : Int), .int .i64 x.anti]
theorem EntC.enc_len (x : EntC) : x.enc.length = 5 := rfl
theorem EntC.enc_one (x : EntC) : ∀ u ∈ x.enc, u.oneCell' = true := by
 intro u hu; simp only [EntC.enc, List.mem_cons, List.not_mem_nil, or_false] at hu; rcases hu with rfl | rfl | rfl | rfl | rfl <;> rfl
def EntC.val (x : EntC) : Value := .agg x.enc.toArray
def mayE (x : EntC) : Bool := decide (2 ≤ x.line) && decide (x.line < 258) && decide (0 < qa9 x.cls) && decide (-1 ≤ x.anti) && decide (x.anti < 258)
theorem qvx (x : EntC) (w : World) : Calls prog 319 #[x.val] w fun e w' => e = .returned (.bool (mayE x)) ∧ Below w.heap.size w w' := by
 obtain ⟨line, cls, r, d, anti⟩ := x; unfold EntC.val EntC.enc; by_cases h1 : 2 ≤ line
 · by_cases h2 : line < 258
   · by_cases h3 : 0 < qa9 cls
     · have h3i : (0 : Int) < (qa9 cls : Int) := by omega
       by_cases h4 : -1 ≤ anti
       · by_cases h5 : anti < 258
         · have e : mayE ⟨line, cls, r, d, anti⟩ = true := by simp [mayE, h1, h2, h3, h4, h5]
           rw [e]; go_enter func319, ntmps319; go_wp2_with fail; refine (qaw cls _).mono ?_; rintro e w1 ⟨rfl, rfl⟩; go_wp2_with fail; go_ret; exact ⟨rfl, (Below.refl _ _).alloc (Nat.le_refl _) _⟩
         · have e : mayE ⟨line, cls, r, d, anti⟩ = false := by simp [mayE, h5]
           have h5' : 258 ≤ anti := by omega
           rw [e]; go_enter func319, ntmps319; go_wp2_with fail; refine (qaw cls _).mono ?_; rintro e w1 ⟨rfl, rfl⟩; go_wp2_with fail; go_ret; exact ⟨by show Ending.returned (Value.bool (decide (anti < 258))) = _; rw [decide_eq_false (by omega)], (Below.refl _ _).alloc (Nat.le_refl _) _⟩
       · have e : mayE ⟨line, cls, r, d, anti⟩ = false := by simp [mayE, h4]
         have h4' : anti < -1 := by omega
         rw [e]; go_enter func319, ntmps319; go_wp2_with fail; refine (qaw cls _).mono ?_; rintro e w1 ⟨rfl, rfl⟩; go_wp2_with fail; go_ret; exact ⟨rfl, (Below.refl _ _).alloc (Nat.le_refl _) _⟩
     · have e : mayE ⟨line, cls, r, d, anti⟩ = false := by simp [mayE, h3]
       have h30 : qa9 cls = 0 := by omega
       rw [e]; go_enter func319, ntmps319; go_wp2_with fail; refine (qaw cls _).mono ?_; rintro e w1 ⟨rfl, rfl⟩; rw [h30]; go_wp2_with fail; go_ret; exact ⟨rfl, (Below.refl _ _).alloc (Nat.le_refl _) _⟩
   · have e : mayE ⟨line, cls, r, d, anti⟩ = false := by simp [mayE, h2]
     have h2' : 258 ≤ line := by omega
     rw [e]; go_enter func319, ntmps319; go_wp2_with fail; go_ret; exact ⟨rfl, (Below.refl _ _).alloc (Nat.le_refl _) _⟩
 · have e : mayE ⟨line, cls, r, d, anti⟩ = false := by simp [mayE, h1]
   have h1' : line < 2 := by omega
   rw [e]; go_enter func319, ntmps319; go_wp2_with fail; go_ret; exact ⟨rfl, (Below.refl _ _).alloc (Nat.le_refl _) _⟩
structure qfi (w : World) (lo p : Nat) (A : Option Addr) (c : Nat) (l : List EntC) : Prop where
 box : w.heap[p]? = some (.cells #[.slice A l.length c] 226 (0, 0))
 rows : Own EntC.enc 334 5 w lo A c l
 lo : lo ≤ p
theorem qr4 (w : World) : Calls prog 73 #[] w fun e w' => e = .returned (.pointer (some ⟨w.heap.size, 0, none⟩)) ∧ qfi w' w.heap.size w.heap.size none 0 [] ∧ Below w.heap.size w w' := by
 go_enter func73, ntmps73; go_wp2_with fail; go_ret; exact ⟨rfl, ⟨(qa2 _ _ _).trans (if_pos rfl), Own.none_, Nat.le_refl _⟩, (Below.refl _ _).alloc (Nat.le_refl _) _⟩
theorem qj2 : (prog.info? 334).map (fun i => (i.zero, i.size, i.bytes)) = some (some (.agg #[.int .i64 0, .int .i64 0, .int .u64 0, .int .u64 0, .int .i64 0]), 5, 40) := by kernel_rfl
theorem qu1 {ops : Array Oper} {rest : List Oper} {o : Oper} {a : Act} {Q : Exit → Act → World → Prop} (w : World) (hgd : o.guard = none) (s x : Operand)
 (ho : o.op = .call { callee := .builtin .append, args := #[s, x], argTypes := #[224, 224] }) {lo : Nat} {A : Option Addr} {c : Nat} {l : List EntC} (hs : a.eval s = .slice A l.length c) (own : Own EntC.enc 334 5 w lo A c l)
 {B : Nat} {A2 : Option Addr} {m : List EntC} (c2 : Nat) (hx : a.eval x = .slice A2 m.length c2) (arr : Arr EntC.enc 5 w B A2 m) (hb : l.length + m.length ≤ 1000000) (hlo : lo ≤ w.heap.size)
 (h : ∀ A' c' w', Own EntC.enc 334 5 w' lo A' c' (l ++ m) → w.grownBy w' (qa8 A c) → (A' = A ∧ c' = c ∨ ∃ g, A' = some ⟨g, 0, none⟩ ∧ w.heap.size ≤ g) → wpList prog ops Q rest (a.put o.dst (.slice A' (l.length + m.length) c')) w') :
 wpList prog ops Q (o :: rest) a w := by
 obtain ⟨i0, hi, hz0, hz1, hz2⟩ := info_parts qj2; exact qar w hgd s x 224 ho i0 _ 40 underlying224 hi hz0 hz1 hz2 rfl (by decide) EntC.enc_len EntC.enc_one hs own c2 hx arr (by unfold maxLen; omega) (by omega) hlo h
theorem qwv (l : List EntC) (A : Option Addr) (c : Nat) (w : World) (hA : Arr EntC.enc 5 w w.heap.size A l) (hb : l.length ≤ 1000000) :
 Calls prog 383 #[.slice A l.length c] w fun e w' => ∃ A' c', e = .returned (.slice A' l.length c') ∧ Own EntC.enc 334 5 w' w.heap.size A' c' l ∧ Below w.heap.size w w' := by
 have HB := hid hb; clear hb; have hnil := fun W : World => Lib.run_eql_slice_nil (P := prog) W 224 334 A l.length c 0 0 underlying224
 cases A with
 | none =>
  go_enter func383, ntmps383; go_wp2; go_ret; have hl : l = [] := by
   rcases hA with h | ⟨b, off, h, _⟩
   · exact h
   · cases h
  subst hl; exact ⟨none, 0, rfl, Own.none_, Below.refl _ _⟩
 | some a =>
  go_enter func383, ntmps383; go_wp2_with (at_builtin; refine qu1 (l := []) (m := l) _ rfl (.tmp 5) (.tmp 6) rfl rfl (Own.zero (lo := w.heap.size)) c rfl (hA.below ((Below.refl _ w).alloc (Nat.le_refl _) _)) (by simpa using HB.out) (by simp) ?_; intro A' c' w' hown hgr hloc); go_ret; refine ⟨A', c', by simp, by simpa using hown, ((Below.refl _ w).alloc (Nat.le_refl _) _).grown hgr (by simp) (fun k hk => ?_)⟩; simp [qa8] at hk
theorem qr5 (w : World) (lo p : Nat) (A : Option Addr) (c : Nat) (l : List EntC) (h : qfi w lo p A c l) (hl : l.length ≤ 1000000) : Calls prog 364 #[.pointer (some ⟨p, 0, none⟩)] w fun e w' => ∃ A' c', e = .returned (.slice A' l.length c') ∧ Own EntC.enc 334 5 w' w.heap.size A' c' l ∧ Below w.heap.size w w' := by
 have hp := qa0 h.box; have p0 := cell_of_row w p 0 _ _ _ h.box; have T := hid (qwv l A c w (h.rows.arr EntC.enc_len) hl); clear h; go_enter func364, ntmps364; go_wp2_with fail; refine T.out.mono ?_; rintro e w1 ⟨A', c', rfl, hown, hb⟩; have HH := hid (And.intro hown hb); clear hown hb; go_wp2_with fail; go_ret; exact ⟨A', c', rfl, HH.out.1, HH.out.2⟩
end
section
open Go.RowKit
theorem qbe {α : Type} {enc : α → List Value} {e : TypeId} {k : Nat} {P : Program} (w : World) {ops : Array Oper} {o : Oper} {a : Act} {K : Act → World → Prop} {Q : Exit → Act → World → Prop} {E : Prop} (hgd : o.guard = none) (s x : Operand) (t : TypeId)
 (ho : o.op = .call { callee := .builtin .append, args := #[s, x], argTypes := #[t, t] })
 (i : TypeInfo) (z : Value) (bytes : Nat) (ht : P.underlying t = some (.slice e)) (hi : P.info? e = some i) (hz : i.zero = some z)
 (hsize : i.size = k) (hby : i.bytes = bytes) (hzs : z.cells.size = k) (hk0 : 0 < k) (hk : ∀ x, (enc x).length = k) (h1 : ∀ x, ∀ u ∈ enc x, u.oneCell' = true)
 {lo : Nat} {A : Option Addr} {c : Nat} {l : List α} (hs : a.eval s = .slice A l.length c) (own : Own enc e k w lo A c l) {B : Nat} {A2 : Option Addr} {m : List α} (c2 : Nat) (hx : a.eval x = .slice A2 m.length c2) (arr : Arr enc k w B A2 m)
 (h63 : l.length + m.length ≤ maxLen) (hbytes : (l.length + m.length) * bytes ≤ 140737488355328) (hlo : lo ≤ w.heap.size)
 (h : ∀ A' c' w', Own enc e k w' lo A' c' (l ++ m) → w.grownBy w' (qa8 A c) → (A' = A ∧ c' = c ∨ ∃ g, A' = some ⟨g, 0, none⟩ ∧ w.heap.size ≤ g) → K (a.put o.dst (.slice A' (l.length + m.length) c')) w') :
 if Region.wanted o (yielded ops a.tmps) = true then Oper.wp P o a w K Q else E := by
 have hw : Region.wanted o (yielded ops a.tmps) = true := by simp [Region.wanted, hgd]
 rw [if_pos hw]; obtain ⟨A', c', w', hrun, h2, h3, h4⟩ := qeq (P := P) w t o.type i z bytes ht hi hz hsize hby hzs hk0 hk h1 own arr c2 h63 hbytes hlo; unfold Oper.wp execOp; simp only [ho, resolve, invoke, builtin, Sem.run_bind, Sem.run_pure, Result.andThen_ok, List.map_toArray, List.map_cons, List.map_nil, hs, hx, hrun]; exact h A' c' w' h2 h3 h4
theorem qr7 {w : World} {vb : Nat} {x : EntC} (hv : w.heap[vb]? = some (.cells x.enc.toArray 334 (0, 0))) : Arr EntC.enc 5 w w.heap.size (some ⟨vb, 0, none⟩) [x] := by
 refine Arr.of_cells EntC.enc_len ?_ fun j u hu => ?_
 · exact qa0 hv
 · rw [Nat.zero_add, cell_of_row w vb j _ _ _ hv, List.getElem?_toArray]
   simpa using hu
theorem Own.rowNe {α : Type} {enc : α → List Value} {e : TypeId} {k : Nat} {w : World} {lo : Nat} {A : Option Addr} {c p : Nat} {l : List α} (own : Own enc e k w lo A c l) (h : ∀ o, A = some ⟨p, o, none⟩ → c = 0) : some p ≠ qa8 A c := fun he => by
 unfold qa8 at he
 split at he
 · cases he
 · rename_i hc
   rcases own.lt with h0 | ⟨b, off, rfl, -, -⟩
   · exact hc h0
   · cases he
     exact hc (h off rfl)
theorem Own.offP {α : Type} {enc : α → List Value} {e : TypeId} {k : Nat} {w : World} {lo : Nat} {A : Option Addr} {c p : Nat} {l : List α} (own : Own enc e k w lo A c l) (h : ∀ o, A = some ⟨p, o, none⟩ → c = 0) (q : Nat) (u : Value) : Own enc e k (w.setCell ⟨p, q, none⟩ u) lo A c l := by
 obtain ⟨h1, h2, h3⟩ := own; refine ⟨h1, h2, ?_⟩; rcases h3 with h3 | ⟨b, off, cur, rfl, hlo, hh, hs, hc⟩
 · exact .inl h3
 · by_cases hb : b = p
   · subst hb
     exact .inl (h off rfl)
   · exact .inr ⟨b, off, cur, rfl, hlo, (Below.heap_setCell _ _ _ _ hb).trans hh, hs, hc⟩
def putE (l : List EntC) (x : EntC) : List EntC := if mayE x = true ∧ l.length < 258 then l ++ [x] else l
def qxo (lo p : Nat) (A : Option Addr) (c : Nat) (l : List EntC) (w : World) (e : Ending) (w' : World) : Prop := ∃ code A' c', e = .returned (.int .i64 code) ∧ qfi w' lo p A' c' l ∧ Below lo w w' ∧ (∀ b, b < w.heap.size → b ≠ p → (∀ o, A = some ⟨b, o, none⟩ → c = 0) → w'.heap[b]? = w.heap[b]?) ∧ (A' = A ∧ c' = c ∨ ∃ g, A' = some ⟨g, 0, none⟩ ∧ w.heap.size ≤ g)
theorem qr3 (w : World) (lo p : Nat) (A : Option Addr) (c : Nat) (l : List EntC) (x : EntC) (h : qfi w lo p A c l) (hap : ∀ o, A = some ⟨p, o, none⟩ → c = 0) : Calls prog 271 #[.pointer (some ⟨p, 0, none⟩), x.val] w (qxo lo p A c (putE l x) w) := by
 have H := hid h; have HAP := hid hap; have hp := qa0 h.box; have hlo := h.lo; clear h hap; have HXV := hid (show x.val = .agg #[.int .i64 x.line, .int .i64 x.cls, .int .u64 (x.r : Int), .int .u64 (x.d : Int), .int .i64 x.anti] from rfl); rw [HXV.out]; go_enter func271, ntmps271; go_upto_region 1 with fail; generalize hw1 : World.alloc w _ = w1; have R1 : w1.heap[w.heap.size]? = some (.cells x.enc.toArray 334 (0, 0)) := by rw [← hw1]; exact (qa2 _ _ _).trans (if_pos rfl)
 have b1 : Below w.heap.size w w1 := by rw [← hw1]; exact (Below.refl _ _).alloc (Nat.le_refl _) _
 have HR1 := hid R1; have HB1 := hid b1; have r0 := cell_of_row w1 _ 0 _ _ _ R1; have r1 := cell_of_row w1 _ 1 _ _ _ R1; have r2 := cell_of_row w1 _ 2 _ _ _ R1; have r3 := cell_of_row w1 _ 3 _ _ _ R1; have r4 := cell_of_row w1 _ 4 _ _ _ R1; have hl1 := qa0 R1; clear hw1 R1 b1; simp only [EntC.enc, List.getElem?_toArray, List.getElem?_cons_zero, List.getElem?_cons_succ] at r0 r1 r2 r3 r4; go_wp2_with fail; have TM := qvx x w1; rw [HXV.out] at TM; refine TM.mono ?_; rintro e w2 ⟨rfl, b2⟩; have bw2 : Below w.heap.size w w2 := HB1.out.trans (b2.mono HB1.out.size); have BX2 := (bw2.block p hp).trans H.out.box; have R2 := (b2.block _ hl1).trans HR1.out; have HOW := hid (H.out.rows.below bw2); have HBW := hid bw2; have HBX := hid BX2; have hp2 := qa0 BX2; have hl2 := qa0 R2; have p0 := cell_of_row w2 p 0 _ _ _ BX2; have fp := frozen_of_row w2 p 0 _ _ BX2; have HR2 := hid R2; clear r0 r1 r2 r3 r4 TM b2 bw2 BX2; have r0 := cell_of_row w2 _ 0 _ _ _ R2; have r1 := cell_of_row w2 _ 1 _ _ _ R2; have r2 := cell_of_row w2 _ 2 _ _ _ R2; have r3 := cell_of_row w2 _ 3 _ _ _ R2; have r4 := cell_of_row w2 _ 4 _ _ _ R2; simp only [EntC.enc, List.getElem?_toArray, List.getElem?_cons_zero, List.getElem?_cons_succ] at r0 r1 r2 r3 r4; clear R2; cases hm : mayE x with
 | false =>
  have hpe : putE l x = l := by unfold putE; rw [if_neg (by rw [hm]; rintro ⟨h, -⟩; cases h)]
  have HPE := hid hpe; clear hm hpe; go_wp2_with fail; go_ret; exact ⟨1, A, c, rfl, by rw [HPE.out]; exact ⟨HBX.out, HOW.out, hlo⟩, HBW.out.mono (by omega), (fun b hb _ _ => HBW.out.block b hb), .inl ⟨rfl, rfl⟩⟩
 | true =>
  by_cases hl : l.length < 258
  · have hpe : putE l x = l ++ [x] := by unfold putE; rw [if_pos ⟨hm, hl⟩]
    have HPE := hid hpe; have hli : ¬ (258 : Int) ≤ (l.length : Int) := by omega
    clear hm hpe; go_upto_region 5 with fail; obtain ⟨i0, hi0, hz0, hz1, hz2⟩ := info_parts qj2; have HI := hid hi0; have HZ0 := hid hz0; have HZ1 := hid hz1; have HZ2 := hid hz2; have HL := hid hl; clear hi0 hz0 hz1 hz2 hl hli; go_region_law (refine qbe (l := l) (m := [x]) (A := A) (c := c) (lo := lo) _ rfl (.tmp 22) (.tmp 24) 224 rfl i0 _ 40 underlying224 HI.out HZ0.out HZ1.out HZ2.out rfl (by decide) EntC.enc_len EntC.enc_one (by simp [Act.eval]) (by first | exact HOW.out.alloc _ | exact HOW.out.drew.alloc _ | exact (HOW.out.alloc _).drew) (A2 := some ⟨w2.heap.size, 0, none⟩) 1 (by simp [Act.eval]) (qr7 (vb := w2.heap.size) (x := x) (by first | (rw [qa2, if_pos (by simp)]; rfl) | (show (World.alloc _ _).heap[_]? = _; rw [qa2, if_pos (by simp)]; rfl))) (by have := HL.out; unfold maxLen; simp; omega) (by have := HL.out; simp; omega) (by have := HBW.out.size; simp; omega) ?_; intro A' c' w3 hown hgr hloc; have B3 : w3.heap[p]? = some (.cells #[.slice A l.length c] 226 (0, 0)) := (hgr.block p (by first | (simp; omega) | omega) (HOW.out.rowNe HAP.out)).trans ((by first | exact Below.heap_alloc w2 _ _ hp2 | exact Below.heap_alloc w2.drew _ _ hp2 : _ = w2.heap[p]?).trans HBX.out); have e31 := cell_of_row w3 p 0 _ _ _ B3; have f31 := frozen_of_row w3 p 0 _ _ B3; have hp3 := qa0 B3); all_goals
     have hwz := HBW.out.size; have hA' : ∀ o, A' = some ⟨p, o, none⟩ → c' = 0 := fun o ho => by
      rcases hloc with ⟨rfl, rfl⟩ | ⟨g, rfl, hg⟩
      · exact HAP.out o ho
      · cases ho
        simp at hg; omega
     have b3 : Below lo w w3 := qck (by first | exact HOW.out.alloc _ | exact HOW.out.drew.alloc _ | exact (HOW.out.alloc _).drew) hgr (by first | exact (HBW.out.mono (by omega)).alloc (by omega) _ | exact (HBW.out.mono (by omega)).drew.alloc (by show lo ≤ w2.heap.size; omega) _ | exact ((HBW.out.mono (by omega)).alloc (by omega) _).drew) (by simp; omega); have hoth : ∀ b, b < w.heap.size → b ≠ p → (∀ o, A = some ⟨b, o, none⟩ → c = 0) → (w3.setCell ⟨p, 0, none⟩ (.slice A' (l.length + 1) c')).heap[b]? = w.heap[b]? := fun b hb hbp hbA =>
      (Below.heap_setCell _ _ _ _ hbp).trans ((hgr.block b (by simp; omega) (HOW.out.rowNe hbA)).trans ((by first | exact Below.heap_alloc w2 _ _ (by omega) | exact Below.heap_alloc w2.drew _ _ (by show b < w2.heap.size; omega) : _ = w2.heap[b]?).trans (HBW.out.block b hb)))
     have HFIN := hid (show qfi (w3.setCell ⟨p, 0, none⟩ (.slice A' (l.length + 1) c')) lo p A' c' (putE l x) by
      rw [HPE.out]
      exact ⟨by rw [List.length_append]; exact heap_setCell_same w3 p 0 _ _ (.slice A' (l.length + 1) c') B3, hown.offP hA' _ _, hlo⟩)
     have HB3 := hid (b3.setCell (p := ⟨p, 0, none⟩) hlo (.slice A' (l.length + 1) c')); have HOT := hid hoth; have HLC : Hid (A' = A ∧ c' = c ∨ ∃ g, A' = some ⟨g, 0, none⟩ ∧ w.heap.size ≤ g) := hid (hloc.imp id fun ⟨y, h1, h2⟩ => ⟨y, h1, by simp at h2; omega⟩); clear hoth b3 hA' hloc hgr hown; go_wp2; go_ret; exact ⟨0, A', c', rfl, HFIN.out, HB3.out, HOT.out, HLC.out⟩
  · have hpe : putE l x = l := by unfold putE; rw [if_neg (by rintro ⟨-, h⟩; exact hl h)]
    have HPE := hid hpe; have hli : (258 : Int) ≤ (l.length : Int) := by omega
    clear hm hpe hl; go_wp2_with fail; go_ret; exact ⟨11, A, c, rfl, by rw [HPE.out]; exact ⟨HBX.out, HOW.out, hlo⟩, HBW.out.mono (by omega), (fun b hb _ _ => HBW.out.block b hb), .inl ⟨rfl, rfl⟩⟩
end
section
open Go.RowKit
structure BlkC where
 cls : Int
 kind : Int
 id : Nat
 ver : Nat
 ep : Nat
 key : ByteArray
 val : ByteArray
 deriving DecidableEq
def BlkC.enc (x : BlkC) : List Value := [.int .i64 x.cls, .int .i64 x.kind, .int .u64 (x.id : Int), .int .u64 (x.ver : Int), .int .u64 (x.ep : Int), .string x.key, .string x.val]
def BlkC.v (x : BlkC) : Value := .agg x.enc.toArray
def blk0 : BlkC := ⟨0, 0, 0, 0, 0, ByteArray.empty, ByteArray.empty⟩
def bl (s : ByteArray) : List UInt8 := s.data.toList
theorem qfc (s : ByteArray) : (bl s).length = s.size := Array.length_toList
def u8I (x : Int) : UInt8 := UInt8.ofNat (x % 256).toNat
theorem qrg (x : Int) : ((u8I x).toNat : Int) = x % 256 := by
 have h1 := Int.emod_nonneg x (show (256 : Int) ≠ 0 by decide); have h2 := Int.emod_lt_of_pos x (show (0 : Int) < 256 by decide); rw [u8I, UInt8.toNat_ofNat']; omega
theorem qjn (x : Int) : IntKind.u8.wrap x = ((u8I x).toNat : Int) := by
 rw [qrg]; simp [IntKind.wrap, IntKind.signed, IntKind.bits]
def qsz (b : BlkC) : List UInt8 := ((((zeros 64).set 0 1).set 1 (u8I b.cls)).set 2 (u8I b.kind)).set 3 (u8I b.key.size)
def qsy (b : BlkC) : List UInt8 := putL (putL (putL (putL (qsz b) 4 b.val.size 2) 8 b.id 8) 16 b.ver 8) 24 b.ep 8
def qfy (b : BlkC) (data : List UInt8) : List UInt8 := qbj (putL (qsy b) 32 (sumL (sumL 0 ((qsy b).take 32)) data) 4) 36 (data.take 28)
theorem qlr (b : BlkC) : (qsz b).length = 64 := by simp [qsz, zeros]
theorem qlq (b : BlkC) : (qsy b).length = 64 := by simp [qsy, qb7, qlr]
theorem qcv (b : BlkC) {data : List UInt8} (h : 28 ≤ data.length) : (qfy b data).length = 64 := by
 rw [qfy, qc1]
 · rw [qb7, qlq]
 · rw [qb7, qlq, List.length_take]
   omega
def qc6 (b : BlkC) : List UInt8 := qbj (zeros (capI b.cls)) 0 ((bl b.key ++ bl b.val).take (capI b.cls))
def ql0 (d : List UInt8) : Nat → List UInt8
 | 0 => []
 | n + 1 => ql0 d n ++ qbj ((zeros 64).set 0 2) 1 (((d.drop 28).drop (63 * n)).take 63)
def mayB (b : BlkC) : Bool :=
 if qa9 b.cls = 0 then false
 else if b.kind = 0 then decide (b.id = 0 ∧ b.ver = 0 ∧ b.ep = 0 ∧ b.key.toList = [] ∧ b.val.toList = [])
 else if b.kind = 1 then
  if b.key.size < 1 ∨ 16 < b.key.size then false
  else if 400 < b.val.size ∨ qbh ((b.key.size : Int) + b.val.size) ≠ b.cls then false
  else qau b.id && qau b.ver && qau b.ep
 else if b.kind = 2 then
  if b.key.size ≠ 0 ∨ 400 < b.val.size ∨ qbh (b.val.size : Int) ≠ b.cls then false
  else qau b.id && qau b.ver && qau b.ep
 else if b.kind = 3 then
  if b.key.size + b.val.size ≠ 0 ∨ b.cls ≠ 0 then false
  else qau b.id && qau b.ver && qau b.ep
 else false
def encB (b : BlkC) : List UInt8 := qfy b (qc6 b) ++ ql0 (qc6 b) (qa9 b.cls - 1)
def qbm (l : List UInt8) : Nat → List UInt8
 | 0 => []
 | 1 => (l.take 64).drop 36
 | n + 2 => qbm l (n + 1) ++ ((l.drop (64 * (n + 1))).take 64).drop 1
def strB (l : List UInt8) : ByteArray := ⟨l.toArray⟩
def qf7 (l : List UInt8) : Bool := decide (l.length = 64) && decide ((l.getD 0 0).toNat = 1) && decide (qa9 ((l.getD 1 0).toNat : Int) ≠ 0) && decide ((l.getD 2 0).toNat ≤ 3)
def parsed (l : List UInt8) : BlkC :=
 let k := (l.getD 3 0).toNat
 let n := getL l 4 2
 let all := qbm l (l.length / 64)
 ⟨((l.getD 1 0).toNat : Int), ((l.getD 2 0).toNat : Int), getL l 8 8, getL l 16 8, getL l 24 8, strB (all.take k), strB ((all.drop k).take n)⟩
def decB (l : List UInt8) : Option BlkC :=
 if l.length < 64 ∨ qf7 (l.take 64) = false ∨ l.length ≠ qa9 ((l.getD 1 0).toNat : Int) * 64 then none
 else if (qbm l (l.length / 64)).length < (l.getD 3 0).toNat + getL l 4 2 then none
 else if mayB (parsed l) = true ∧ encB (parsed l) = l then some (parsed l) else none
end
end Go.Proofs.YtecikkjbnkhhkaaGreat
