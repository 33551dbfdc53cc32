/- A part of the walk. -/
import Derived.Test.YtecikkjbnkhhkaaGreatP09
import Derived.Test.YtecikkjbnkhhkaaGreatP10
namespace Go.Proofs.YtecikkjbnkhhkaaGreat
open _root_.Go.Proofs.Tryz
set_option maxHeartbeats 4000000
set_option maxRecDepth 100000
section
open Go.RowKit
structure qan where
 cls : Int
 taken : List Bool
 n : Int
 ht : taken.length = 8
def qan.enc (x : qan) : List Value := [.int .i64 x.cls] ++ x.taken.map Value.bool ++ [.int .i64 x.n]
theorem qan.enc_len (x : qan) : x.enc.length = 10 := by simp [qan.enc, x.ht]
theorem qan.e_cls (x : qan) : x.enc[0]? = some (.int .i64 x.cls) := rfl
theorem qan.e_taken (x : qan) {k : Nat} (hk : k < 8) : x.enc[1 + k]? = some (.bool (x.taken[k]'(by rw [x.ht]; exact hk))) := by
 have h1 : k < x.taken.length := by rw [x.ht]; exact hk
 rw [qan.enc, List.append_assoc, List.getElem?_append_right (by simp), List.getElem?_append_left (by simp; omega), List.getElem?_map]; simp only [List.length_cons, List.length_nil, Nat.zero_add, Nat.add_sub_cancel_left]; rw [List.getElem?_eq_getElem h1]; rfl
theorem qan.e_n (x : qan) : x.enc[9]? = some (.int .i64 x.n) := by
 rw [qan.enc, List.getElem?_append_right (by simp [x.ht])]; simp [x.ht]
structure qb8 (w : World) (lo p sc : Nat) (S : List qan) : Prop where
 box : w.heap[p]? = some (.cells #[.slice (some ⟨sc, 0, none⟩) S.length S.length] 220 (0, 0))
 rows : Own qan.enc 223 10 w lo (some ⟨sc, 0, none⟩) S.length S
 lo : lo ≤ p ∧ lo ≤ sc ∧ p ≠ sc
 len : 1 ≤ S.length ∧ S.length ≤ 32
structure qu8 (w : World) (sc i : Nat) (x : qan) : Prop where
 cls : w.cell? ⟨sc, i * 10, none⟩ = some (.int .i64 x.cls)
 taken : ∀ k (hk : k < 8), w.cell? ⟨sc, i * 10 + 1 + k, none⟩ = some (.bool (x.taken[k]'(by rw [x.ht]; exact hk)))
 n : w.cell? ⟨sc, i * 10 + 9, none⟩ = some (.int .i64 x.n)
 fr : ∀ k, w.frozen? ⟨sc, k, none⟩ = false
 lt : sc < w.heap.size
theorem qb8.slab {w : World} {lo p sc : Nat} {S : List qan} (h : qb8 w lo p sc S) {i : Nat} (hi : i < S.length) : qu8 w sc i S[i] := by
 have hp : ∀ o v, o < 10 → S[i].enc[o]? = some v → w.rangeAt sc (0 + i * 10 + o) [v] ∧ w.there sc (0 + i * 10 + o) [v].length ∧ sc < w.heap.size := fun o v ho hv => h.rows.part qan.enc_len hi (o := o) (vs := [v]) (by simp; omega) (fun j hj => by
  simp only [List.length_cons, List.length_nil] at hj
  obtain rfl : j = 0 := by omega
  rw [Nat.add_zero, hv]; rfl)
 have h0 := hp 0 _ (by omega) (qan.e_cls _); have h9 := hp 9 _ (by omega) (qan.e_n _); have hf : ∀ k, w.frozen? ⟨sc, k, none⟩ = false := fun k => by
  rcases h.rows.2.2 with h1 | ⟨b', o', cur, hA, -, hh, -⟩
  · have := h.len; omega
  · cases hA
    exact frozen_of_row w sc k _ _ hh
 refine ⟨?_, fun k hk => ?_, ?_, hf, h0.2.2⟩
 · have := h0.1 0 _ rfl
   simpa using this
 · have := (hp (1 + k) _ (by omega) (qan.e_taken _ hk)).1 0 _ rfl
   rw [show 0 + i * 10 + (1 + k) + 0 = i * 10 + 1 + k by omega] at this; exact this
 · have := h9.1 0 _ rfl
   simpa using this
theorem qhi (w : World) (lo p sc : Nat) (S : List qan) (h : qb8 w lo p sc S) : Calls prog 323 #[.pointer (some ⟨p, 0, none⟩)] w fun e w' => e = .returned (.slice (some ⟨sc, 0, none⟩) S.length S.length) ∧ w' = w := by
 have hp := qa0 h.box; have p0 := cell_of_row w p 0 _ _ _ h.box; clear h; go_enter func323, ntmps323; go_wp2_with fail; go_ret; exact ⟨rfl, rfl⟩
def qrc (x : qan) (w : World) (e : Ending) (w' : World) : Prop := w' = w ∧ ∃ r : Int, e = .returned (.int .i64 r) ∧
 ((r = -1 ∧ ∀ j (h : j < x.taken.length), j < 8 / qa9 x.cls → x.taken[j] = true) ∨ ∃ k, ∃ h : k < x.taken.length, r = k ∧ k < 8 / qa9 x.cls ∧ x.taken[k] = false)
theorem qt4 (w : World) (sc i : Nat) (x : qan) (h : qu8 w sc i x) (hc : ¬ qa9 x.cls = 0) : Calls prog 363 #[.pointer (some ⟨sc, i * 10, none⟩)] w (qrc x w) := by
 have H := hid h; have c0 := h.cls; have hlt := h.lt; obtain ⟨n, q, hn, hq, hn1, hn8, hq8⟩ : ∃ n q : Nat, qa9 x.cls = n ∧ 8 / n = q ∧ 1 ≤ n ∧ n ≤ 8 ∧ q ≤ 8 := by
  rcases qet x.cls with h | h | h | h | h
  · exact absurd h hc
  all_goals exact ⟨_, _, h, rfl, by omega, by omega, by omega⟩
 have HN := hid hn; have HQ := hid hq; have HDI := hid (show (8 : Int) / (n : Int) = (q : Int) by rw [← hq]; rfl); have hne : ((n : Int) == 0) = false := by rw [beq_eq_false_iff_ne]; omega
 have hn0 : ¬ (n : Int) = 0 := by omega
 have hx := x.ht; have HX := hid hx; clear h hn hq hx; go_enter func363, ntmps363; go_wp2_with fail; refine (qaw x.cls w).mono ?_; rintro e w1 ⟨rfl, rfl⟩; rw [HN.out]; go_wp2_with fail; rw [HDI.out]; clear hne hn0 c0; go_loopw [3, 10] (fun _ v10 wr => ∃ k : Nat, k ≤ q ∧ v10 = .int .i64 k ∧ wr = w1 ∧ ∀ j (h : j < x.taken.length), j < k → x.taken[j] = true) (fun _ v10 _ => q - (intOf v10).toNat)
 case atStart => exact ⟨0, by omega, rfl, rfl, fun j _ hj => absurd hj (by omega)⟩
 case round =>
  obtain ⟨k, hk, rfl, rfl, hall⟩ := hrel; have HALL := hid hall; clear hall; by_cases hlt2 : k < q
  · have hlti : (k : Int) < (q : Int) := by omega
    have hk8 : (k : Int) < 8 := by omega
    have hkt : k < x.taken.length := by rw [HX.out]; omega
    have tk := H.out.taken k (by omega); cases hb : x.taken[k] with
    | true =>
     have HB := hid hb; rw [hb] at tk; clear hb; go_wp2_with fail; exact ⟨⟨k + 1, by omega, by go_num, trivial, fun j hj hjk => by
      rcases (by omega : j < k ∨ j = k) with h1 | rfl
      · exact HALL.out j hj h1
      · exact HB.out⟩, by simp [intOf]; omega⟩
    | false =>
     have HB := hid hb; rw [hb] at tk; clear hb; go_wp2_with fail; go_ret; exact ⟨rfl, _, rfl, .inr ⟨k, hkt, rfl, by rw [HN.out, HQ.out]; exact hlt2, HB.out⟩⟩
  · obtain rfl : k = q := by omega
    go_wp2_with fail; go_ret; exact ⟨rfl, -1, rfl, .inl ⟨rfl, fun j hj hjq => HALL.out j hj (by rw [HN.out, HQ.out] at hjq; exact hjq)⟩⟩
end
section
open Go.RowKit
def qan.put (x : qan) (c : Int) (k : Nat) : qan := { cls := c, taken := x.taken.set k true, n := wrap64 (x.n + 1), ht := by rw [List.length_set]; exact x.ht }
theorem qan.cls_same (x : qan) (c : Int) : ∀ j, j < 0 ∨ 0 + [Value.int .i64 c].length ≤ j → ({ x with cls := c } : qan).enc[j]? = x.enc[j]? := fun j hj => by
 simp only [List.length_cons, List.length_nil] at hj
 obtain ⟨i, rfl⟩ : ∃ i, j = i + 1 := ⟨j - 1, by omega⟩
 rfl
theorem qan.taken_same (x : qan) (k : Nat) (v : Bool) : ∀ j, j < 1 + k ∨ 1 + k + [Value.bool v].length ≤ j → ({ x with taken := x.taken.set k v, ht := by rw [List.length_set]; exact x.ht } : qan).enc[j]? = x.enc[j]? := fun j hj => by
 simp only [List.length_cons, List.length_nil] at hj
 have e : ∀ z : qan, z.enc[j]? = if j < 1 then some (.int .i64 z.cls) else if j < 9 then (z.taken.map Value.bool)[j - 1]? else [Value.int .i64 z.n][j - 9]? := fun z => by
  rw [qan.enc]
  split
  · obtain rfl : j = 0 := by omega
    rfl
  · split
    · rw [List.append_assoc, List.getElem?_append_right (by simp; omega), List.getElem?_append_left (by simp [z.ht]; omega)]
      simp
    · rw [List.getElem?_append_right (by simp [z.ht]; omega)]
      simp [z.ht]
 rw [e, e]
 by_cases h1 : j < 1
 · rw [if_pos h1, if_pos h1]
 · rw [if_neg h1, if_neg h1]
   by_cases h9 : j < 9
   · rw [if_pos h9, if_pos h9, List.map_set, List.getElem?_set_ne (by omega)]
   · rw [if_neg h9, if_neg h9]
theorem qan.n_same (x : qan) (v : Int) : ∀ j, j < 9 ∨ 9 + [Value.int .i64 v].length ≤ j → ({ x with n := v } : qan).enc[j]? = x.enc[j]? := fun j hj => by
 simp only [List.length_cons, List.length_nil] at hj
 rcases hj with hj | hj
 · have e : ∀ z : qan, z.enc[j]? = ([Value.int .i64 z.cls] ++ z.taken.map Value.bool)[j]? := fun z => by
    rw [qan.enc, List.getElem?_append_left (by simp [z.ht]; omega)]
   rw [e, e]
 · rw [List.getElem?_eq_none (by rw [qan.enc_len]; omega), List.getElem?_eq_none (by rw [qan.enc_len]; omega)]
theorem qeu {enc : List Value} {o : Nat} {v : Value} (h : enc[o]? = some v) : ∀ j, j < [v].length → enc[o + j]? = [v][j]? := fun j hj => by
 simp only [List.length_cons, List.length_nil] at hj
 obtain rfl : j = 0 := by omega
 rw [Nat.add_zero, h]
 rfl
def quc (lo p sc : Nat) (S : List qan) (w : World) (e : Ending) (w' : World) : Prop := e = .returned (.tuple #[]) ∧ qb8 w' lo p sc S ∧ Below lo w w' ∧ ∀ b, b ≠ sc → w'.heap[b]? = w.heap[b]?
theorem qro (w : World) (lo p sc : Nat) (S : List qan) (h : qb8 w lo p sc S) (i k : Nat) (hi : i < S.length) (hk : k < 8) (c : Int) : Calls prog 324 #[.pointer (some ⟨sc, i * 10, none⟩), .int .i64 c, .int .i64 (k : Int)] w (quc lo p sc (S.set i (S[i].put c k)) w) := by
 have H := hid h; have hs := h.slab hi; have c0 := hs.cls; have ck := hs.taken k hk; have c9 := hs.n; have f0 := hs.fr (i * 10); have fk := hs.fr (i * 10 + 1 + k); have f9 := hs.fr (i * 10 + 9); have hlt := hs.lt; have hk8 : (k : Int) < 8 := by omega
 have hne1 : ¬ i * 10 = i * 10 + 1 + k := by omega
 have hne2 : ¬ i * 10 + 1 + k = i * 10 + 9 := by omega
 have hkt : k < S[i].taken.length := by rw [S[i].ht]; exact hk
 have h1 := h.rows.setPart qan.enc_len hi { S[i] with cls := c } 0 [.int .i64 c] (by simp) (qan.cls_same _ c) (qeu rfl); have h2 := h1.setPart qan.enc_len (i := i) (by rw [List.length_set]; exact hi) { S[i] with cls := c, taken := S[i].taken.set k true, ht := by rw [List.length_set]; exact S[i].ht } (1 + k) [.bool true] (by simp; omega) (fun j hj => by rw [List.getElem_set_self]; exact qan.taken_same { S[i] with cls := c } k true j hj) (qeu (by rw [qan.e_taken _ hk]; simp)); have h3 := h2.setPart qan.enc_len (i := i) (by rw [List.length_set, List.length_set]; exact hi) (S[i].put c k) 9 [.int .i64 (wrap64 (S[i].n + 1))] (by simp) (fun j hj => by rw [List.getElem_set_self]; exact qan.n_same { S[i] with cls := c, taken := S[i].taken.set k true, ht := by rw [List.length_set]; exact S[i].ht } (wrap64 (S[i].n + 1)) j hj) (qeu (qan.e_n _)); rw [List.set_set, List.set_set, Nat.zero_add, Nat.add_zero, ← Nat.add_assoc] at h3; have HR := hid (show Own qan.enc 223 10 (((w.setCell ⟨sc, i * 10, none⟩ (.int .i64 c)).setCell ⟨sc, i * 10 + 1 + k, none⟩ (.bool true)).setCell ⟨sc, i * 10 + 9, none⟩ (.int .i64 (wrap64 (S[i].n + 1)))) lo (some ⟨sc, 0, none⟩) S.length (S.set i (S[i].put c k)) from h3); clear h hs h1 h2 h3; generalize S[i].put c k = y at *; generalize S[i].taken[k] = tk at *; generalize S[i].n = sn at *; generalize S[i].cls = scl at *; go_enter func324, ntmps324; go_wp2_with fail; have hlo := H.out.lo; have hb3 : ∀ b, b ≠ sc → ((((w.setCell ⟨sc, i * 10, none⟩ (.int .i64 c)).setCell ⟨sc, i * 10 + 1 + k, none⟩ (.bool true)).setCell ⟨sc, i * 10 + 9, none⟩ (.int .i64 (wrap64 (sn + 1)))).heap[b]?) = w.heap[b]? := fun b hb =>
  (Below.heap_setCell _ _ _ _ hb).trans ((Below.heap_setCell _ _ _ _ hb).trans (Below.heap_setCell _ _ _ _ hb))
 refine bodyPost_ret (v := .tuple #[]) (by simp [results, results324]) rfl ⟨rfl, ⟨by rw [hb3 p hlo.2.2, List.length_set]; exact H.out.box, by rw [List.length_set]; exact HR.out, hlo, by rw [List.length_set]; exact H.out.len⟩, (((Below.refl _ _).setCell hlo.2.1 _).setCell hlo.2.1 _).setCell hlo.2.1 _, hb3⟩
end
section
open Go.RowKit
def quz (S : List qan) (c : Int) (i k : Nat) (ok : Bool) : Prop :=
 (ok = true → ∃ hi : i < S.length, k < 8 ∧ ((S[i].cls = c ∧ k < 8 / qa9 c ∧ ∃ hk : k < S[i].taken.length, S[i].taken[k] = false) ∨ (S[i].cls = -1 ∧ k = 0 ∧ ∀ j (hj : j < S.length), j < i → ¬ S[j].cls = -1))) ∧
 (ok = false → ∀ j (hj : j < S.length), ¬ S[j].cls = -1)
def qur (S : List qan) (c : Int) (w : World) (e : Ending) (w' : World) : Prop := w' = w ∧ ∃ (i k : Nat) (ok : Bool), e = .returned (.tuple #[.int .i64 (i : Int), .int .i64 (k : Int), .bool ok]) ∧ quz S c i k ok
theorem qwn (w : World) (lo p sc : Nat) (S : List qan) (h : qb8 w lo p sc S) (c : Int) (hc : ¬ qa9 c = 0) : Calls prog 336 #[.pointer (some ⟨p, 0, none⟩), .int .i64 c] w (qur S c w) := by
 have H := hid h; have hp := qa0 h.box; have p0 := cell_of_row w p 0 _ _ _ h.box; have hlen := h.len; have T := hid (qhi w lo p sc S h); have hsc := (h.slab (i := 0) (by omega)).lt; clear h; go_enter func336, ntmps336; go_wp2_with fail; refine T.out.mono ?_; rintro e w1 ⟨rfl, rfl⟩; go_wp2_with fail; go_loopw [7, 8, 9, 14] (fun _ _ _ v14 wr => ∃ i : Nat, i ≤ S.length ∧ v14 = .int .i64 i ∧ wr = w1) (fun _ _ _ v14 _ => S.length - (intOf v14).toNat)
 case atStart => exact ⟨0, by omega, rfl, rfl⟩
 case round =>
  obtain ⟨i, hi, rfl, rfl⟩ := hrel; by_cases hlt : i < S.length
  · have hlti : (i : Int) < (S.length : Int) := by omega
    have hs := H.out.slab hlt; have c0 := hs.cls; have HS := hid hs; by_cases hcc : S[i].cls = c
    · have HFR := hid (qt4 wr sc i S[i] hs (by rw [hcc]; exact hc))
      have hce : (S[i].cls == c) = true := by rw [beq_iff_eq]; exact hcc
      have HCC := hid hcc; clear hs hcc; go_wp2_with fail; refine HFR.out.mono ?_; rintro e w2 ⟨rfl, r, rfl, hr⟩; rcases hr with ⟨rfl, -⟩ | ⟨k, hk, rfl, hkq, hkf⟩
      · clear hce
        go_wp2_with fail; exact ⟨⟨i + 1, by omega, by go_num, trivial⟩, by simp [intOf]; omega⟩
      · have hne : ((k : Int) == -1) = false := by rw [beq_eq_false_iff_ne]; omega
        have hne' : ((k : Int) != -1) = true := by rw [bne_iff_ne]; omega
        have HK := hid (And.intro hkq (And.intro hk hkf)); clear hkq hkf hce; go_wp2_with fail; have h8 : k < 8 := by rw [S[i].ht] at hk; exact hk
        refine bodyPost_ret (v := .tuple #[.int .i64 (i : Int), .int .i64 (k : Int), .bool true]) (by simp [results, results336]) rfl ⟨rfl, i, k, true, rfl, fun _ => ⟨hlt, h8, .inl ⟨HCC.out, by rw [← HCC.out]; exact HK.out.1, HK.out.2.1, HK.out.2.2⟩⟩, fun h => by cases h⟩
    · have hce : (S[i].cls == c) = false := by rw [beq_eq_false_iff_ne]; exact hcc
      clear hs hcc; go_wp2_with fail; exact ⟨⟨i + 1, by omega, by go_num, trivial⟩, by simp [intOf]; omega⟩
  · obtain rfl : i = S.length := by omega
    go_wp2_with fail; refine T.out.mono ?_; rintro e w2 ⟨rfl, rfl⟩; go_wp2_with fail; obtain ⟨wo, hwo⟩ : ∃ x, x = w2 := ⟨_, rfl⟩; subst hwo; clear hi hlt; go_loopw [10, 39] (fun _ v39 wr => ∃ i : Nat, i ≤ S.length ∧ v39 = .int .i64 i ∧ wr = wo ∧ ∀ j (hj : j < S.length), j < i → ¬ S[j].cls = -1) (fun _ v39 _ => S.length - (intOf v39).toNat)
    case atStart => exact ⟨0, by omega, rfl, rfl, fun j _ hj => absurd hj (by omega)⟩
    case round =>
     obtain ⟨i, hi, rfl, rfl, hall⟩ := hrel; have HALL := hid hall; clear hall; by_cases hlt : i < S.length
     · have hlti : (i : Int) < (S.length : Int) := by omega
       have hs := H.out.slab hlt; have c0 := hs.cls; by_cases hcc : S[i].cls = -1
       · have HCC := hid hcc
         rw [hcc] at c0; clear hs hcc; go_wp2_with fail; refine bodyPost_ret (v := .tuple #[.int .i64 (i : Int), .int .i64 0, .bool true]) (by simp [results, results336]) rfl ⟨rfl, i, 0, true, rfl, fun _ => ⟨hlt, by omega, .inr ⟨HCC.out, rfl, HALL.out⟩⟩, fun h => by cases h⟩
       · have HCC := hid hcc
         have hce : (S[i].cls == -1) = false := by rw [beq_eq_false_iff_ne]; exact hcc
         clear hs hcc; go_wp2_with fail; exact ⟨⟨i + 1, by omega, by go_num, trivial, fun j hj hji => by
          rcases (by omega : j < i ∨ j = i) with h1 | rfl
          · exact HALL.out j hj h1
          · exact HCC.out⟩, by simp [intOf]; omega⟩
     · obtain rfl : i = S.length := by omega
       go_wp2_with fail; refine bodyPost_ret (v := .tuple #[.int .i64 0, .int .i64 0, .bool false]) (by simp [results, results336]) rfl ⟨rfl, 0, 0, false, rfl, fun h => (by cases h), fun _ j hj => HALL.out j hj hj⟩
end
section
open Go.RowKit
def qzy (lo p sc : Nat) (S : List qan) (c : Int) (w : World) (e : Ending) (w' : World) : Prop :=
 (qa9 c = 0 ∧ e = .returned (.tuple #[.int .i64 0, .int .i64 1]) ∧ w' = w) ∨
 (¬ qa9 c = 0 ∧ e = .returned (.tuple #[.int .i64 0, .int .i64 4]) ∧ w' = w ∧ ∀ j (hj : j < S.length), ¬ S[j].cls = -1) ∨
 (∃ (i k : Nat) (hi : i < S.length), ¬ qa9 c = 0 ∧ quz S c i k true ∧ e = .returned (.tuple #[.int .i64 ((2 + i * 8 + k * qa9 c : Nat) : Int), .int .i64 0]) ∧
  qb8 w' lo p sc (S.set i (S[i].put c k)) ∧ Below lo w w' ∧ ∀ b, b ≠ sc → w'.heap[b]? = w.heap[b]?)
theorem qvd (w : World) (lo p sc : Nat) (S : List qan) (h : qb8 w lo p sc S) (c : Int) : Calls prog 301 #[.pointer (some ⟨p, 0, none⟩), .int .i64 c] w (qzy lo p sc S c w) := by
 have H := hid h; have hp := qa0 h.box; have p0 := cell_of_row w p 0 _ _ _ h.box; have hlen := h.len; by_cases hc : qa9 c = 0
 · clear h
   go_enter func301, ntmps301; go_wp2_with fail; refine (qaw c w).mono ?_; rintro e w1 ⟨rfl, rfl⟩; rw [hc]; go_wp2_with fail; go_ret2; exact .inl ⟨hc, rfl, rfl⟩
 · have hce : (((qa9 c : Nat) : Int) == 0) = false := by rw [beq_eq_false_iff_ne]; omega
   have hs8 : qa9 c ≤ 8 := by rcases qet c with h | h | h | h | h <;> omega
   have TF := hid (qwn w lo p sc S h c hc); clear h; go_enter func301, ntmps301; go_wp2_with fail; refine (qaw c w).mono ?_; rintro e w1 ⟨rfl, rfl⟩; go_wp2_with fail; refine TF.out.mono ?_; rintro e w2 ⟨rfl, i, k, ok, rfl, hf⟩; have HF := hid hf; clear hf hce; cases ok with
   | false =>
    go_wp2_with fail; go_ret2; exact .inr (.inl ⟨hc, rfl, rfl, HF.out.2 rfl⟩)
   | true =>
    obtain ⟨hi, hk8, -⟩ := HF.out.1 rfl; have hii : (i : Int) < (S.length : Int) := by omega
    have hscl := (H.out.slab hi).lt; have TT := hid (qro w2 lo p sc S H.out i k hi hk8 c); have hsl : qha i = 2 + (i : Int) * 8 := by unfold qha; rw [if_neg (by omega)]
    have HSL := hid hsl; have hks : k * qa9 c ≤ 64 := by
     calc k * qa9 c ≤ 8 * 8 := Nat.mul_le_mul (by omega) hs8
      _ = 64 := rfl
    clear hsl; go_wp2_with fail; refine TT.out.mono ?_; rintro e w3 ⟨rfl, hP, hb, hoth⟩; have HP := hid (And.intro hP (And.intro hb hoth)); clear hP hb hoth p0; go_wp2_with fail; refine (qjs i w3).mono ?_; rintro e w4 ⟨rfl, rfl⟩; rw [HSL.out]; go_wp2_with fail; refine (qaw c w4).mono ?_; rintro e w5 ⟨rfl, rfl⟩; have HE := hid (show ((2 + i * 8 + k * qa9 c : Nat) : Int) = 2 + (i : Int) * 8 + (k : Int) * (qa9 c : Int) by push_cast; rfl); have hbn : (0 : Int) ≤ (k : Int) * (qa9 c : Int) ∧ (k : Int) * (qa9 c : Int) ≤ 64 := by rw [← Int.natCast_mul]; omega
    have j1 : IntKind.i64.wrap ((k : Int) * (qa9 c : Int)) = (k : Int) * (qa9 c : Int) := Go.IntWalk.i64_in _ (by omega); have j2 : IntKind.i64.wrap (2 + (i : Int) * 8 + (k : Int) * (qa9 c : Int)) = 2 + (i : Int) * 8 + (k : Int) * (qa9 c : Int) := Go.IntWalk.i64_in _ (by omega); go_wp2_with fail; go_ret2; exact .inr (.inr ⟨i, k, hi, hc, HF.out, by rw [HE.out]; rfl, HP.out.1, HP.out.2.1, HP.out.2.2⟩)
end
section
open Go.RowKit
theorem qmx (k : Nat) (c : Int) : (qb1 k c).length ≤ 8 := by
 unfold qb1; split
 · simp
 · rw [List.length_map, List.length_range]
   exact Nat.div_le_self _ _
theorem qmy {i : Nat} {c : Int} {k k' : Nat} (h : k < (qb1 i c).length) (h' : k' < (qb1 i c).length) (e : (qb1 i c)[k] = (qb1 i c)[k']) : k = k' := by
 have h0 : ¬ (qa9 c = 0 ∨ 32 ≤ i) := fun h0 => by simp [qb1, h0] at h
 simp only [qb1, if_neg h0, List.getElem_map, List.getElem_range] at e; have hp : 0 < qa9 c := by omega
 exact Nat.eq_of_mul_eq_mul_right hp (by omega)
def qxj (S : List qan) (line : Int) : Prop := ∀ (i k : Nat) (hi : i < S.length) (hk : k < S[i].taken.length) (hs : k < (qb1 i S[i].cls).length), qcc line = (i : Int) → line = ((qb1 i S[i].cls)[k] : Int) → S[i].taken[k] = false
def qA1 (sc : Nat) (S : List qan) (line : Int) (w : World) (e : Ending) (w' : World) : Prop :=
 Below w.heap.size w w' ∧ ∃ (pv : Value) (kk : Int) (ok : Bool), e = .returned (.tuple #[pv, .int .i64 kk, .bool ok]) ∧
  (ok = true → ∃ (i k : Nat) (hi : i < S.length), pv = .pointer (some ⟨sc, i * 10, none⟩) ∧ kk = k ∧ k < 8 ∧ (∃ hk : k < S[i].taken.length, S[i].taken[k] = true) ∧ ∃ hs : k < (qb1 i S[i].cls).length, line = ((qb1 i S[i].cls)[k] : Int)) ∧
  (ok = false → qxj S line)
theorem qya (w : World) (lo p sc : Nat) (S : List qan) (h : qb8 w lo p sc S) (line : Int) : Calls prog 318 #[.pointer (some ⟨p, 0, none⟩), .int .i64 line] w (qA1 sc S line w) := by
 have H := hid h; have hp := qa0 h.box; have p0 := cell_of_row w p 0 _ _ _ h.box; have hlen := h.len; have TA := hid (qhi w lo p sc S h); clear h; by_cases hi0 : qcc line < 0
 · have HI0 := hid hi0
   have HN0 : Hid (qxj S line) := hid fun i' k' _ _ _ h1 => absurd h1 (by omega)
   go_enter func318, ntmps318; go_wp2_with fail; refine (qfo line w).mono ?_; rintro e w1 ⟨rfl, rfl⟩; generalize qcc line = sl at *; go_wp2_with fail; refine bodyPost_ret (v := .tuple #[.pointer none, .int .i64 0, .bool false]) (by simp [results, results318]) rfl ⟨Below.refl _ _, _, _, false, rfl, (fun h => by cases h), fun _ => HN0.out⟩
 · obtain ⟨i, hi⟩ : ∃ i : Nat, qcc line = (i : Int) := ⟨(qcc line).toNat, by omega⟩
   have hin : ¬ (i : Int) < 0 := by omega
   have HI := hid hi; clear hi hi0; by_cases hlt : i < S.length
   · have hlti : (i : Int) < (S.length : Int) := by omega
     have hs := H.out.slab hlt; have c0 := hs.cls; have hsc := hs.lt; have HS := hid hs; have TS := hid (qpw i S[i].cls w (by omega)); have hsl := qmx i S[i].cls; clear hs; go_enter func318, ntmps318; go_wp2_with fail; refine (qfo line w).mono ?_; rintro e w1 ⟨rfl, rfl⟩; rw [HI.out]; go_wp2_with fail; refine TA.out.mono ?_; rintro e w2 ⟨rfl, rfl⟩; go_wp2_with fail; refine TS.out.mono ?_; rintro e w3 ⟨A, ca, rfl, hown, hb⟩; have HO := hid hown; have HB := hid hb; have HLS := hid hsl; clear hown hb c0 p0 hsl; go_wp2_with fail; refine (qsv _ line A ca w3 (HO.out.arr qjz) HO.out.len HO.out.max).mono ?_; rintro e w4 ⟨rfl, r, rfl, hr⟩; have hs4 : qu8 w4 sc i S[i] := by
      have hl := HS.out.lt; exact ⟨(HB.out.cell (p := ⟨sc, i * 10, none⟩) hl).trans HS.out.cls, fun k hk => (HB.out.cell (p := ⟨sc, i * 10 + 1 + k, none⟩) hl).trans (HS.out.taken k hk), (HB.out.cell (p := ⟨sc, i * 10 + 9, none⟩) hl).trans HS.out.n, fun k => (HB.out.frozen (p := ⟨sc, k, none⟩) hl).trans (HS.out.fr k), Nat.lt_of_lt_of_le hl HB.out.size⟩
     have HS4 := hid hs4; have hl4 := hs4.lt; clear hs4; rcases hr with ⟨rfl, hno⟩ | ⟨k, hk, rfl, hlk⟩
     · have HNO := hid hno
       clear hno; go_wp2_with fail; go_quiet (fail); go_wp2_with fail; refine bodyPost_ret (v := .tuple #[.pointer (some ⟨sc, i * 10, none⟩), .int .i64 (-1), .bool false]) (by simp [results, results318]) rfl ⟨qa1 HB.out _, _, _, false, rfl, (fun h => by cases h), fun _ i' k' hi' hk' hs' h1 h2 => by obtain rfl : i' = i := (by have := HI.out; omega); exact absurd h2 (HNO.out k' hs')⟩
     · have hk8 : k < 8 := by have := HLS.out; omega
       have hk8i : (k : Int) < 8 := by omega
       have hk0 : (0 : Int) ≤ (k : Int) := by omega
       have hkt : k < S[i].taken.length := by rw [S[i].ht]; exact hk8
       have tk := HS4.out.taken k hk8; have HK := hid (And.intro hk8 (And.intro hkt ⟨hk, hlk⟩ : k < S[i].taken.length ∧ ∃ hs : k < (qb1 i S[i].cls).length, line = ((qb1 i S[i].cls)[k] : Int))); have HTK : Hid (S[i].taken[k] = S[i].taken[k]) := hid rfl; clear hlk; cases hb : S[i].taken[k] with
       | true =>
        have HBT := hid hb; rw [hb] at tk; clear hb HTK; go_wp2_with fail; go_quiet (fail); go_wp2_with fail; refine bodyPost_ret (v := .tuple #[.pointer (some ⟨sc, i * 10, none⟩), .int .i64 (k : Int), .bool true]) (by simp [results, results318]) rfl ⟨qa1 HB.out _, _, _, true, rfl, (fun _ => ⟨i, k, hlt, rfl, rfl, HK.out.1, ⟨HK.out.2.1, HBT.out⟩, HK.out.2.2⟩), fun h => by cases h⟩
       | false =>
        have HBT := hid hb; rw [hb] at tk; clear hb HTK; go_wp2_with fail; go_quiet (fail); go_wp2_with fail; refine bodyPost_ret (v := .tuple #[.pointer (some ⟨sc, i * 10, none⟩), .int .i64 (k : Int), .bool false]) (by simp [results, results318]) rfl ⟨qa1 HB.out _, _, _, false, rfl, (fun h => by cases h), fun _ i' k' hi' hk' hs' h1 h2 => by obtain rfl : i' = i := (by have := HI.out; omega); obtain rfl : k' = k := qmy hs' HK.out.2.2.1 (by have := HK.out.2.2.2; omega); exact HBT.out⟩
   · have hlti : (S.length : Int) ≤ (i : Int) := by omega
     go_enter func318, ntmps318; go_wp2_with fail; refine (qfo line w).mono ?_; rintro e w1 ⟨rfl, rfl⟩; rw [HI.out]; go_wp2_with fail; refine TA.out.mono ?_; rintro e w2 ⟨rfl, rfl⟩; go_wp2_with fail; refine bodyPost_ret (v := .tuple #[.pointer none, .int .i64 0, .bool false]) (by simp [results, results318]) rfl ⟨Below.refl _ _, _, _, false, rfl, (fun h => by cases h), fun _ i' k' hi' hk' hs' h1 h2 => absurd h1 (by have := HI.out; omega)⟩
end
section
open Go.RowKit
def qzz (S : List qan) (line : Int) (w : World) (e : Ending) (w' : World) : Prop :=
 Below w.heap.size w w' ∧ ∃ (c : Int) (ok : Bool), e = .returned (.tuple #[.int .i64 c, .bool ok]) ∧
  (ok = true → ∃ (i k : Nat) (hi : i < S.length), c = S[i].cls ∧ (∃ hk : k < S[i].taken.length, S[i].taken[k] = true) ∧ ∃ hs : k < (qb1 i S[i].cls).length, line = ((qb1 i S[i].cls)[k] : Int)) ∧
  (ok = false → qxj S line)
theorem qAb (w : World) (lo p sc : Nat) (S : List qan) (h : qb8 w lo p sc S) (line : Int) : Calls prog 340 #[.pointer (some ⟨p, 0, none⟩), .int .i64 line] w (qzz S line w) := by
 have H := hid h; have TA := hid (qya w lo p sc S h line); clear h; go_enter func340, ntmps340; go_wp2_with fail; refine TA.out.mono ?_; rintro e w1 ⟨b1, pv, kk, ok, rfl, hok, hno⟩; have HB := hid b1; have HOK := hid hok; have HNO := hid hno; clear hok hno; cases ok with
 | false =>
  go_wp2_with fail; go_ret2; exact ⟨HB.out, _, false, rfl, (fun h => by cases h), fun _ => (by first | exact HNO.out rfl | exact HNO.out trivial | exact HNO.out)⟩
 | true =>
  obtain ⟨i, k, hi, rfl, rfl, hk8, hkt, hks⟩ := HOK.out rfl; have hs := H.out.slab hi; have c0 := (HB.out.cell (p := ⟨sc, i * 10, none⟩) hs.lt).trans hs.cls; have hl := Nat.lt_of_lt_of_le hs.lt HB.out.size; have HF := hid (And.intro hkt hks); clear hs hkt hks; go_wp2_with fail; go_ret2; exact ⟨HB.out, _, true, rfl, (fun _ => ⟨i, k, hi, rfl, HF.out.1, HF.out.2⟩), fun h => by cases h⟩
end
section
open Go.RowKit
def qan.gave (x : qan) (k : Nat) : qan := { cls := if wrap64 (x.n - 1) = 0 then -1 else x.cls, taken := x.taken.set k false, n := wrap64 (x.n - 1), ht := by rw [List.length_set]; exact x.ht }
def qup (lo p sc : Nat) (S : List qan) (w : World) (e : Ending) (w' : World) : Prop :=
 ∃ (code : Int) (S' : List qan), e = .returned (.int .i64 code) ∧ (S' = S ∨ ∃ (i k : Nat) (hi : i < S.length), S' = S.set i (S[i].gave k) ∧ ∃ hk : k < S[i].taken.length, S[i].taken[k] = true) ∧
  qb8 w' lo p sc S' ∧ Below lo w w' ∧ ∀ b, b < w.heap.size → b ≠ sc → w'.heap[b]? = w.heap[b]?
theorem qb8.below {w w' : World} {lo p sc : Nat} {S : List qan} (h : qb8 w lo p sc S) (hb : Below w.heap.size w w') : qb8 w' lo p sc S :=
 ⟨(hb.block p (qa0 h.box)).trans h.box, h.rows.below hb, h.lo, h.len⟩
theorem qwj (w : World) (lo p sc : Nat) (S : List qan) (h : qb8 w lo p sc S) (line : Int) : Calls prog 270 #[.pointer (some ⟨p, 0, none⟩), .int .i64 line] w (qup lo p sc S w) := by
 have H := hid h; have TA := hid (qya w lo p sc S h line); have hlw : lo ≤ w.heap.size := by have := qa0 h.box; have := h.lo; omega
 clear h; go_enter func270, ntmps270; go_wp2_with fail; refine TA.out.mono ?_; rintro e w1 ⟨b1, pv, kk, ok, rfl, hok, -⟩; have HB := hid b1; have HP1 := hid (H.out.below b1); have HOK := hid hok; clear hok b1; cases ok with
 | false =>
  go_wp2_with fail; go_ret; exact ⟨1, S, rfl, .inl rfl, HP1.out, HB.out.mono hlw, fun b hb _ => HB.out.block b hb⟩
 | true =>
  obtain ⟨i, k, hi, rfl, rfl, hk8, hkt, -⟩ := HOK.out rfl; have hs := HP1.out.slab hi; have c0 := hs.cls; have ck := hs.taken k hk8; have c9 := hs.n; have f0 := hs.fr (i * 10); have fk := hs.fr (i * 10 + 1 + k); have f9 := hs.fr (i * 10 + 9); have hlt := hs.lt; have hk8i : (k : Int) < 8 := by omega
  have HKT := hid hkt; have hne1 : ¬ i * 10 = i * 10 + 1 + k := by omega
  have hne2 : ¬ i * 10 + 1 + k = i * 10 + 9 := by omega
  have hkl : k < S[i].taken.length := by rw [S[i].ht]; exact hk8
  have h1 := HP1.out.rows.setPart qan.enc_len hi { S[i] with taken := S[i].taken.set k false, ht := by rw [List.length_set]; exact S[i].ht } (1 + k) [.bool false] (by simp; omega) (qan.taken_same _ k false) (qeu (by rw [qan.e_taken _ hk8]; simp)); have h2 := h1.setPart qan.enc_len (i := i) (by rw [List.length_set]; exact hi) { S[i] with taken := S[i].taken.set k false, n := wrap64 (S[i].n - 1), ht := by rw [List.length_set]; exact S[i].ht } 9 [.int .i64 (wrap64 (S[i].n - 1))] (by simp) (fun j hj => by rw [List.getElem_set_self]; exact qan.n_same { S[i] with taken := S[i].taken.set k false, ht := by rw [List.length_set]; exact S[i].ht } (wrap64 (S[i].n - 1)) j hj) (qeu (qan.e_n _)); have hlo := HP1.out.lo; by_cases hz : wrap64 (S[i].n - 1) = 0
  · have h3 := h2.setPart qan.enc_len (i := i) (by rw [List.length_set, List.length_set]; exact hi) (S[i].gave k) 0 [.int .i64 (-1)] (by simp) (fun j hj => by rw [List.getElem_set_self]; exact (by unfold qan.gave; simp only [if_pos hz]; exact qan.cls_same { S[i] with taken := S[i].taken.set k false, n := wrap64 (S[i].n - 1), ht := by rw [List.length_set]; exact S[i].ht } (-1) j hj)) (qeu (by unfold qan.gave; simp only [if_pos hz]; rfl))
    rw [List.set_set, List.set_set, Nat.zero_add, Nat.add_zero, ← Nat.add_assoc] at h3; have HR := hid (show Own qan.enc 223 10 (((w1.setCell ⟨sc, i * 10 + 1 + k, none⟩ (.bool false)).setCell ⟨sc, i * 10 + 9, none⟩ (.int .i64 (wrap64 (S[i].n - 1)))).setCell ⟨sc, i * 10, none⟩ (.int .i64 (-1))) lo (some ⟨sc, 0, none⟩) S.length (S.set i (S[i].gave k)) from h3); have HZ := hid hz; have hze : (wrap64 (S[i].n - 1) == 0) = true := by rw [beq_iff_eq]; exact hz
    have hD : qb8 (((w1.setCell ⟨sc, i * 10 + 1 + k, none⟩ (.bool false)).setCell ⟨sc, i * 10 + 9, none⟩ (.int .i64 (wrap64 (S[i].n - 1)))).setCell ⟨sc, i * 10, none⟩ (.int .i64 (-1))) lo p sc (S.set i (S[i].gave k)) :=
     ⟨by rw [List.length_set]; exact (Below.heap_setCell _ _ _ _ hlo.2.2).trans ((Below.heap_setCell _ _ _ _ hlo.2.2).trans ((Below.heap_setCell _ _ _ _ hlo.2.2).trans HP1.out.box)), by rw [List.length_set]; exact HR.out, hlo, by rw [List.length_set]; exact HP1.out.len⟩
    have HD := hid hD; have HBL := hid ((((HB.out.mono hlw).setCell (p := ⟨sc, i * 10 + 1 + k, none⟩) hlo.2.1 (.bool false)).setCell (p := ⟨sc, i * 10 + 9, none⟩) hlo.2.1 (.int .i64 (wrap64 (S[i].n - 1)))).setCell (p := ⟨sc, i * 10, none⟩) hlo.2.1 (.int .i64 (-1))); have HOT := hid (fun (b : Nat) (hb : b < w.heap.size) (hbs : b ≠ sc) => (Below.heap_setCell _ (⟨sc, i * 10, none⟩ : Addr) (.int .i64 (-1)) _ hbs).trans ((Below.heap_setCell _ (⟨sc, i * 10 + 9, none⟩ : Addr) (.int .i64 (wrap64 (S[i].n - 1))) _ hbs).trans ((Below.heap_setCell w1 (⟨sc, i * 10 + 1 + k, none⟩ : Addr) (.bool false) _ hbs).trans (HB.out.block b hb)))); clear h1 h2 h3 hs hkt hz hD; go_wp2_with fail; go_ret; exact ⟨0, _, rfl, .inr ⟨i, k, hi, rfl, HKT.out⟩, HD.out, HBL.out, HOT.out⟩
  · have hg : S[i].gave k = { S[i] with taken := S[i].taken.set k false, n := wrap64 (S[i].n - 1), ht := by rw [List.length_set]; exact S[i].ht } := by unfold qan.gave; simp only [if_neg hz]
    rw [List.set_set, Nat.zero_add, ← Nat.add_assoc, ← hg] at h2; have HR := hid (show Own qan.enc 223 10 ((w1.setCell ⟨sc, i * 10 + 1 + k, none⟩ (.bool false)).setCell ⟨sc, i * 10 + 9, none⟩ (.int .i64 (wrap64 (S[i].n - 1)))) lo (some ⟨sc, 0, none⟩) S.length (S.set i (S[i].gave k)) from h2); have hze : (wrap64 (S[i].n - 1) == 0) = false := by rw [beq_eq_false_iff_ne]; exact hz
    have hD : qb8 ((w1.setCell ⟨sc, i * 10 + 1 + k, none⟩ (.bool false)).setCell ⟨sc, i * 10 + 9, none⟩ (.int .i64 (wrap64 (S[i].n - 1)))) lo p sc (S.set i (S[i].gave k)) :=
     ⟨by rw [List.length_set]; exact (Below.heap_setCell _ _ _ _ hlo.2.2).trans ((Below.heap_setCell _ _ _ _ hlo.2.2).trans HP1.out.box), by rw [List.length_set]; exact HR.out, hlo, by rw [List.length_set]; exact HP1.out.len⟩
    have HD := hid hD; have HBL := hid (((HB.out.mono hlw).setCell (p := ⟨sc, i * 10 + 1 + k, none⟩) hlo.2.1 (.bool false)).setCell (p := ⟨sc, i * 10 + 9, none⟩) hlo.2.1 (.int .i64 (wrap64 (S[i].n - 1)))); have HOT := hid (fun (b : Nat) (hb : b < w.heap.size) (hbs : b ≠ sc) => (Below.heap_setCell _ (⟨sc, i * 10 + 9, none⟩ : Addr) (.int .i64 (wrap64 (S[i].n - 1))) _ hbs).trans ((Below.heap_setCell w1 (⟨sc, i * 10 + 1 + k, none⟩ : Addr) (.bool false) _ hbs).trans (HB.out.block b hb))); clear h1 h2 hs hkt hz hD hg; go_wp2_with fail; go_ret; exact ⟨0, _, rfl, .inr ⟨i, k, hi, rfl, HKT.out⟩, HD.out, HBL.out, HOT.out⟩
end
section
open Go.RowKit
def qd3 (c : Int) : qan := { cls := c, taken := List.replicate 8 false, n := 0, ht := rfl }
theorem qrx : (prog.info? 223).map (fun i => (i.zero.map Value.cells, i.size, i.bytes)) = some (some (qd3 0).enc.toArray, 10, 24) := by kernel_rfl
theorem qq6 (z : Array Value) (n q r : Nat) (hz : z.size = 10) (hr : r < 10) (hq : q < n) : (madeCells z (n * 10))[q * 10 + r]? = z[r]? := by
 have h1 : q * 10 + r < n * 10 := by omega
 unfold madeCells; rw [Array.getElem?_map, Array.getElem?_range, if_pos h1, Option.map_some, hz, show (q * 10 + r) % 10 = r by omega, getElem!_pos z r (by omega), Array.getElem?_eq_getElem (by omega)]
def qbs (n k : Nat) : List qan := List.replicate k (qd3 (-1)) ++ List.replicate (n - k) (qd3 0)
theorem qav {n k : Nat} (h : k ≤ n) : (qbs n k).length = n := by simp [qbs]; omega
theorem qn0 {n k : Nat} (h : k < n) : (qbs n k)[k]'(by rw [qav (by omega)]; exact h) = qd3 0 := by
 simp only [qbs]; rw [List.getElem_append_right (by simp)]; simp
theorem ql2 {n k : Nat} (h : k < n) : (qbs n k).set k (qd3 (-1)) = qbs n (k + 1) := by
 unfold qbs; rw [List.set_append_right _ _ (by simp), List.length_replicate, Nat.sub_self, show n - k = (n - (k + 1)) + 1 by omega, List.replicate_succ, List.set_cons_zero, List.replicate_succ', List.append_assoc]; rfl
theorem qna (n : Nat) (w : World) (h1 : 1 ≤ n) (h2 : n ≤ 32) : Calls prog 71 #[.int .i64 (n : Int)] w fun e w' => e = .returned (.tuple #[.pointer (some ⟨w.heap.size + 1, 0, none⟩), .int .i64 0]) ∧ qb8 w' w.heap.size (w.heap.size + 1) w.heap.size (List.replicate n (qd3 (-1))) ∧ Below w.heap.size w w' := by
 have g1 : ¬ (n : Int) < 1 := by omega
 have g2 : ¬ (32 : Int) < (n : Int) := by omega
 obtain ⟨i, hi, hz, hs, hby⟩ : ∃ i, prog.info? 223 = some i ∧ i.zero.map Value.cells = some (qd3 0).enc.toArray ∧ i.size = 10 ∧ i.bytes = 24 := by
  have := qrx; cases hq : prog.info? 223 with
  | none => rw [hq] at this; cases this
  | some i => rw [hq] at this; simp at this; exact ⟨i, rfl, by simpa using this⟩
 obtain ⟨z, hz1, hz2⟩ : ∃ z, i.zero = some z ∧ z.cells = (qd3 0).enc.toArray := by
  cases hq : i.zero with
  | none => rw [hq] at hz; cases hz
  | some z => rw [hq] at hz; simp at hz; exact ⟨z, rfl, hz⟩
 have MK := fun W => run_make (P := prog) W 218 223 i z underlying218 hi hz1 .i64 .i64 (n : Int) (n : Int) (by omega) (Int.le_refl _) (by rw [hby]; omega) (by omega)
 simp only [Int.toNat_natCast, hs, hz2] at MK; clear hz1 hz2 hz hs hby hi; go_enter func71, ntmps71; go_wp2_with fail; refine (ql1 258 w (by omega) (by omega)).mono ?_; rintro e w1 ⟨rfl, rfl⟩; rw [show (((258 - 2) / 8 : Nat) : Int) = 32 from rfl]; go_upto_region 4 with fail; generalize hw2 : World.alloc (World.alloc w1 _) _ = w2; have HD : Hid (qb8 w2 w1.heap.size (w1.heap.size + 1) w1.heap.size (qbs n 0)) := hid (by
  refine ⟨?_, ?_, ⟨by omega, Nat.le_refl _, by omega⟩, by rw [qav (by omega)]; omega⟩
  · rw [qav (by omega), ← hw2]
    exact (qa2 _ _ _).trans (by rw [if_pos (by simp)])
  · rw [qav (by omega)]
    refine ⟨by rw [qav (by omega)]; exact Nat.le_refl _, by unfold maxLen; omega, .inr ⟨w1.heap.size, 0, madeCells (qd3 0).enc.toArray (n * 10), rfl, Nat.le_refl _, ?_, by rw [size_madeCells]; omega, fun j u hu => ?_⟩⟩
    · rw [← hw2]
      exact (Below.heap_alloc _ _ _ (by simp)).trans ((qa2 _ _ _).trans (if_pos rfl))
    · have hlt := (List.getElem?_eq_some_iff.1 hu).1
      rw [qao qan.enc_len, qav (by omega)] at hlt
      obtain ⟨q, r, rfl, hq, hr⟩ : ∃ q r, j = q * 10 + r ∧ q < n ∧ r < 10 := ⟨j / 10, j % 10, by omega, by omega, by omega⟩
      rw [qb0 qan.enc_len _ q (by rw [qav (by omega)]; exact hq) r hr] at hu
      rw [Nat.zero_add, qq6 _ n q r (by rw [List.size_toArray, qan.enc_len]) hr hq, List.getElem?_toArray]
      have : (qbs n 0)[q]'(by rw [qav (by omega)]; exact hq) = qd3 0 := by simp [qbs]
      rw [this] at hu
      exact hu)
 have b2 : Below w1.heap.size w1 w2 := by rw [← hw2]; exact ((Below.refl _ _).alloc (Nat.le_refl _) _).alloc (by simp) _
 have HB := hid b2; have hp2 := qa0 HD.out.box; have p0 := cell_of_row w2 _ 0 _ _ _ HD.out.box; rw [qav (by omega)] at p0; clear hw2 b2 MK; go_wp2_with fail; clear p0 hp2; go_loopw [5, 22] (fun _ v22 wr => ∃ k : Nat, k ≤ n ∧ v22 = .int .i64 k ∧ qb8 wr w1.heap.size (w1.heap.size + 1) w1.heap.size (qbs n k) ∧ Below w1.heap.size w1 wr) (fun _ v22 _ => n - (intOf v22).toNat)
 case atStart => exact ⟨0, by omega, rfl, HD.out, HB.out⟩
 case round =>
  obtain ⟨k, hk, rfl, hP, hb⟩ := hrel; have HP := hid hP; have HBR := hid hb; have hp3 := qa0 hP.box; have p0 := cell_of_row wr _ 0 _ _ _ hP.box; rw [qav hk] at p0; by_cases hlt : k < n
  · have hlti : (k : Int) < (n : Int) := by omega
    have hkl : k < (qbs n k).length := by rw [qav hk]; exact hlt
    have hs := hP.slab hkl; have c0 := hs.cls; have f0 := hs.fr (k * 10); have hl := hs.lt; have h1 := hP.rows.setPart qan.enc_len hkl (qd3 (-1)) 0 [.int .i64 (-1)] (by simp) (fun j hj => by rw [qn0 hlt]; exact qan.cls_same (qd3 0) (-1) j hj) (qeu rfl); rw [ql2 hlt, Nat.zero_add, Nat.add_zero, qav hk] at h1; have hD2 : qb8 (wr.setCell ⟨w1.heap.size, k * 10, none⟩ (.int .i64 (-1))) w1.heap.size (w1.heap.size + 1) w1.heap.size (qbs n (k + 1)) :=
     ⟨by rw [qav (by omega), ← qav hk]; exact (Below.heap_setCell _ _ _ _ hP.lo.2.2).trans hP.box, by rw [qav (by omega)]; exact h1, hP.lo, by rw [qav (by omega)]; omega⟩
    have HD2 := hid hD2; clear hP hb hs h1 hD2; go_wp2_with fail; exact ⟨⟨k + 1, by omega, by go_num, HD2.out, HBR.out.setCell (Nat.le_refl _) _⟩, by simp [intOf]; omega⟩
  · obtain rfl : k = n := by omega
    clear hP hb; go_wp2_with fail; go_ret2; have he : qbs k k = List.replicate k (qd3 (-1)) := by simp [qbs]
    exact ⟨rfl, by rw [← he]; exact HP.out, HBR.out⟩
end
section
open Go.RowKit
abbrev Own8 := Nat → Nat
def mark (g : Own8) (w w' : World) (i : Nat) : Own8 := fun b => if w.heap.size ≤ b ∧ b < w'.heap.size then i else g b
theorem qat {g : Own8} {w w' : World} {i b : Nat} (h : b < w.heap.size) : mark g w w' i b = g b := if_neg (by omega)
theorem qos {g : Own8} {w w' : World} {i b : Nat} (h : w.heap.size ≤ b) (h' : b < w'.heap.size) : mark g w w' i b = i := if_pos ⟨h, h'⟩
theorem qw0 {g : Own8} {w w' : World} {i b : Nat} (h : w'.heap.size ≤ b) : mark g w w' i b = g b := if_neg (by omega)
def Far (g : Own8) (w : World) : Prop := ∀ b, w.heap.size ≤ b → g b = 0
theorem Far.mono {g : Own8} {w w' : World} (h : Far g w) (hs : w.heap.size ≤ w'.heap.size) : Far g w' := fun b hb => h b (by omega)
theorem Far.mark {g : Own8} {w w' : World} (h : Far g w) (hs : w.heap.size ≤ w'.heap.size) (i : Nat) : Far (mark g w w' i) w' := fun b hb => by rw [qw0 hb]; exact h b (by omega)
theorem Only.rows {F : Nat → Prop} {w w' : World} (ho : Only F w w') {A : Option Addr} {c : Nat} (hF : ∀ b, qa8 A c = some b → ¬ F b) {α : Type} {enc : α → List Value} {e : TypeId} {k lo : Nat} {l : List α} (h : Own enc e k w lo A c l) : Own enc e k w' lo A c l := by
 refine h.keep2 ?_; by_cases hc : c = 0
 · exact .inl hc
 · refine .inr fun b off hA hlt => ho.block b hlt (hF b ?_)
   rw [qa8, if_neg hc, hA]; rfl
theorem qbb.only {F : Nat → Prop} {w w' : World} {lo p dc : Nat} {D : List qab} (h : qbb w lo p dc D) (ho : Only F w w') (h1 : ¬ F p) (h2 : ¬ F dc) : qbb w' lo p dc D := by
 obtain ⟨⟨c0, c1, c2, c3, c4, hb⟩, hr, hl, hn⟩ := h; refine ⟨⟨c0, c1, c2, c3, c4, (ho.block p (qa0 hb) h1).trans hb⟩, ho.rows (fun b hb' => ?_) hr, hl, hn⟩; rw [qa8] at hb'; split at hb'
 · cases hb'
 · cases hb'; exact h2
theorem qb8.only {F : Nat → Prop} {w w' : World} {lo p sc : Nat} {S : List qan} (h : qb8 w lo p sc S) (ho : Only F w w') (h1 : ¬ F p) (h2 : ¬ F sc) : qb8 w' lo p sc S := by
 obtain ⟨hb, hr, hl, hn⟩ := h; refine ⟨(ho.block p (qa0 hb) h1).trans hb, ho.rows (fun b hb' => ?_) hr, hl, hn⟩; rw [qa8] at hb'; split at hb'
 · cases hb'
 · cases hb'; exact h2
theorem RdAt.only {F : Nat → Prop} {w w' : World} {lo p rc now : Nat} {H : List Nat} (h : RdAt w lo p rc now H) (ho : Only F w w') (h1 : ¬ F p) (h2 : ¬ F rc) : RdAt w' lo p rc now H :=
 ⟨(ho.block p (qa0 h.box) h1).trans h.box, (ho.block rc (qa0 h.rows) h2).trans h.rows, h.lo, h.len, h.now1⟩
theorem qbi.only {F : Nat → Prop} {w w' : World} {lo p oc now dur clo : Nat} {owed : List Int} {noted left : List Bool} {step : Value} (h : qbi w lo p oc now dur clo owed noted left step) (ho : Only F w w') (h1 : ¬ F p) (h2 : ¬ F oc) : qbi w' lo p oc now dur clo owed noted left step :=
 ⟨(ho.block p (qa0 h.box) h1).trans h.box, (ho.block oc (qa0 h.rows) h2).trans h.rows, h.lo, h.len⟩
theorem qfi.only {F : Nat → Prop} {w w' : World} {lo p : Nat} {A : Option Addr} {c : Nat} {l : List EntC} (h : qfi w lo p A c l) (ho : Only F w w') (h1 : ¬ F p) (h2 : ∀ b, qa8 A c = some b → ¬ F b) : qfi w' lo p A c l :=
 ⟨(ho.block p (qa0 h.box) h1).trans h.box, ho.rows h2 h.rows, h.lo⟩
theorem qbo.only {F : Nat → Prop} {w w' : World} {lo p c at' n : Nat} {A : Option Addr} {L : List qa3} (h : qbo w lo p A c L at' n) (ho : Only F w w') (h1 : ¬ F p) (h2 : ∀ b, qa8 A c = some b → ¬ F b) : qbo w' lo p A c L at' n :=
 ⟨(ho.block p (qa0 h.box) h1).trans h.box, ho.rows h2 h.rows, h.lo, h.fit, h.nil⟩
end
end Go.Proofs.YtecikkjbnkhhkaaGreat
