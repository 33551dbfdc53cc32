/- A part of the walk. -/
import Derived.Test.YtecikkjbnkhhkaaGreatP47
namespace Go.Proofs.YtecikkjbnkhhkaaGreat
open _root_.Go.Proofs.Tryz
set_option maxHeartbeats 2000000
set_option maxRecDepth 100000
section
open Go.RowKit
theorem qzo (w : World) (lo p dc : Nat) (D : List qab) (h : qbb w lo p dc D) (i : Int) (hi : i < 0 ∨ (D.length : Int) ≤ i) : Calls prog 85 #[.pointer (some ⟨p, 0, none⟩), .int .i64 i] w fun e w' => e = .returned (.int .i64 2) ∧ w' = w := by
 have T0 := hid (qvc w lo p dc D h i hi 0 0); clear h; go_enter func85, ntmps85; go_wp2_with fail; refine T0.out.mono ?_; rintro e w1 ⟨rfl, he⟩; rw [he]; go_wp2_with fail; go_ret; exact ⟨rfl, rfl⟩
def qo9 (Q : Int → qa4 → List ThrC → (Nat → FrD) → List qap → Prop) (wb a : Nat) (P : qag) (c : CfgC) (steps : Int) (r : Option Nat) (g : Own8) (w : World) (e : Ending) (w' : World) : Prop :=
 ∃ code : Int, e = .returned (.int .i64 code) ∧ ∃ g' M' T' D' sA' sc' S', Q code M' T' D' S' ∧ WAt g' w' wb a P M' c T' D' steps sA' sc' S' ∧ qaz g w wb r g' w' (qa8 sA' sc')
section
variable {g : Own8} {w : World} {wb a t : Nat} {P : qag} {M : qa4} {c : CfgC} {T : List ThrC} {D : Nat → FrD} {steps : Int} {sA : Option Addr} {sc : Nat} {S : List qap}
theorem qo9.mono {Q Q' : Int → qa4 → List ThrC → (Nat → FrD) → List qap → Prop} {r : Option Nat} {e : Ending} {w' : World} (hq : ∀ k M' T' D' S', Q k M' T' D' S' → Q' k M' T' D' S') (h : qo9 Q wb a P c steps r g w e w') : qo9 Q' wb a P c steps r g w e w' := by
 obtain ⟨code, h1, g', M', T', D', sA', sc', S', h2, h3⟩ := h; exact ⟨code, h1, g', M', T', D', sA', sc', S', hq _ _ _ _ _ h2, h3⟩
def qBr (M : qa4) (T : List ThrC) (D : Nat → FrD) (S : List qap) (_ : Int) (M' : qa4) (T' : List ThrC) (D' : Nat → FrD) (S' : List qap) : Prop := T' = T ∧ D' = D ∧ S' = S ∧ ∃ DD : List qab, DD.length = M.D.length ∧ M' = { M with D := DD }
theorem qrf (h : WAt g w wb a P M c T D steps sA sc S) (k t l : Int) (cl : qa7) (kA : Option Addr) (kn kc : Nat) :
 Calls prog 56 #[.pointer (some ⟨wb, 0, none⟩), .agg (evL k t l cl kA kn kc).toArray] w (qo9 (qBr M T D S) wb a P c steps (qa8 sA sc) g w) := by
 have H := hid h; clear h; unfold evL; go_enter func56, ntmps56; go_upto_region 1 with fail; generalize hw1 : World.alloc _ _ = w1; have R0 : w1.heap[w.heap.size]? = some (.cells (evL k t l cl kA kn kc).toArray 42 (0, 0)) := by rw [← hw1]; exact qaq _ _
 have b1 : Below w.heap.size w w1 := by rw [← hw1]; exact (Below.refl _ _).alloc (Nat.le_refl _) _
 have h1 := H.out.below b1.drew; have k2 : w1.cell? ⟨w.heap.size, 2, none⟩ = some (.int .i64 l) := cell_of_row w1 _ 2 _ _ _ R0; have c3 : w1.cell? ⟨wb, 3, none⟩ = some (.pointer (some ⟨P.dp, 0, none⟩)) := h1.bx.head 3 (by omega) rfl; have HB1 := hid b1.drew; have H1 := hid h1; clear hw1 b1 R0 h1; go_still_tail 6, (by kernel_rfl); change wpList _ _ _ _ _ (World.drew w1); generalize hw2 : World.drew w1 = w2; rw [hw2] at HB1 H1; clear hw2 k2 c3; by_cases hl : 0 ≤ l ∧ l < (M.D.length : Int)
 · obtain ⟨i, rfl⟩ : ∃ i : Nat, l = (i : Int) := ⟨l.toNat, by omega⟩
   have hi : i < M.D.length := by omega
   have BK := hid (qx8 w2 0 P.dp P.dc M.D H1.out.ar.dev.2.1 i hi); go_wp2_with fail; refine BK.out.mono ?_; rintro e w3 ⟨rfl, hd, ho⟩; have ha := H1.out.ar; obtain ⟨g', har, hx⟩ := ha.setDev (qcx.of2 ho.below (fun j hj h1 h2 => ho.keep j hj h1 h2) ha.dev.2.2.2.1 ha.dev.2.2.2.2) hd; have H3 := hid (H1.out.ext har hx); have HK := hid ((qaz.below (g := g) (wb := wb) (r := qa8 sA sc) HB1.out).trans (qaz.ext hx)); clear hd ho ha har hx; go_wp2_with fail; go_ret; exact ⟨_, rfl, _, _, _, _, _, _, _, ⟨rfl, rfl, rfl, _, by rw [List.length_set], rfl⟩, H3.out, HK.out⟩
 · have BK := hid (qzo w2 0 P.dp P.dc M.D H1.out.ar.dev.2.1 l (by omega))
   go_wp2_with fail; refine BK.out.mono ?_; rintro e w3 ⟨rfl, he⟩; rw [he]; clear he BK; go_wp2_with fail; go_ret; exact ⟨_, rfl, _, _, _, _, _, _, _, ⟨rfl, rfl, rfl, _, rfl, rfl⟩, H1.out, qaz.below HB1.out⟩
end
end
section
open Go.RowKit
def low (x n : Int) : Int := IntKind.u64.wrap x % n
theorem qsk (x n : Int) (hn : 1 ≤ n) : 0 ≤ low x n := Int.emod_nonneg _ (by omega)
theorem qy3 (x n : Int) (hn : 1 ≤ n) : low x n < n := Int.emod_lt_of_pos _ (by omega)
theorem qAn (x n : Int) (hn : 1 ≤ n) (hm : n ≤ 9223372036854775807) : wrap64 ((IntKind.u64.wrap x).tmod n) = low x n := by
 have h0 : 0 ≤ IntKind.u64.wrap x := by rw [IntKind.wrap_u64]; omega
 have h1 := qsk x n hn; have h2 := qy3 x n hn; rw [Int.tmod_eq_emod_of_nonneg h0]; exact Go.IntWalk.wrap64_in _ ⟨by unfold low at *; omega, by unfold low at *; omega⟩
theorem qd6 (x n : Int) (hn : 1 ≤ n) (hm : n ≤ 9223372036854775807) (w : World) :
 Calls prog 21 #[.int .i64 x, .int .i64 n] w fun e w' => e = .returned (.int .i64 (low x n)) ∧ w' = w := by
 go_enter func21, ntmps21; go_wp2; go_ret; exact ⟨qs1 (qAn x n hn hm), rfl⟩
theorem qd5 (x n : Int) (hn : 1 ≤ n) : ∃ k : Nat, low x n = (k : Int) ∧ (k : Int) < n := ⟨(low x n).toNat, by have := qsk x n hn; omega, by have := qsk x n hn; have := qy3 x n hn; omega⟩
def cfgV (x r : Int) : Value := .agg #[.int .i64 (18 + 8 * low x 4), .int .i64 (2 + low r 2), .int .i64 (low r 8)]
theorem qqr (x r : Int) (w : World) : Calls prog 11 #[.int .i64 x, .int .i64 r] w fun e w' => e = .returned (cfgV x r) ∧ Below w.heap.size w w' := by
 have L1 := hid (fun W => qd6 x 4 (by decide) (by decide) W); have L2 := hid (fun W => qd6 r 2 (by decide) (by decide) W); have L3 := hid (fun W => qd6 r 8 (by decide) (by decide) W); obtain ⟨k1, e1, b1⟩ := qd5 x 4 (by decide); obtain ⟨k2, e2, b2⟩ := qd5 r 2 (by decide); obtain ⟨k3, e3, b3⟩ := qd5 r 8 (by decide); unfold cfgV; rw [e1, e2, e3]; simp only [e1, e2, e3] at L1 L2 L3; have i1 : IntKind.i64.wrap (8 * (k1 : Int)) = 8 * (k1 : Int) := Go.IntWalk.i64_in _ (by omega); have i2 : IntKind.i64.wrap (18 + 8 * (k1 : Int)) = 18 + 8 * (k1 : Int) := Go.IntWalk.i64_in _ (by omega); have i3 : IntKind.i64.wrap (2 + (k2 : Int)) = 2 + (k2 : Int) := Go.IntWalk.i64_in _ (by omega); clear e1 e2 e3; go_enter func11, ntmps11; go_upto_region 1 with fail; generalize hw1 : World.alloc _ _ = w1; have hb1 : Below w.heap.size w w1 := by rw [← hw1]; exact (Below.refl _ _).alloc (Nat.le_refl _) _
 obtain ⟨cur, R0, hc⟩ : ∃ cur, w1.heap[w.heap.size]? = some (.cells cur 27 (0, 0)) ∧ cur.size = 3 := ⟨_, by rw [← hw1]; exact qaq _ _, rfl⟩; have HB1 := hid hb1; have f0 := frozen_of_row w1 _ 0 _ _ R0; have f1 := frozen_of_row w1 _ 1 _ _ R0; have f2 := frozen_of_row w1 _ 2 _ _ R0; have hl0 := qa0 R0; obtain ⟨v0, c0⟩ : ∃ v, w1.cell? ⟨w.heap.size, 0, none⟩ = some v := ⟨_, (cell_of_row w1 _ 0 _ _ _ R0).trans (Array.getElem?_eq_getElem (by omega))⟩; obtain ⟨v1, c1⟩ : ∃ v, w1.cell? ⟨w.heap.size, 1, none⟩ = some v := ⟨_, (cell_of_row w1 _ 1 _ _ _ R0).trans (Array.getElem?_eq_getElem (by omega))⟩; obtain ⟨v2, c2⟩ : ∃ v, w1.cell? ⟨w.heap.size, 2, none⟩ = some v := ⟨_, (cell_of_row w1 _ 2 _ _ _ R0).trans (Array.getElem?_eq_getElem (by omega))⟩; have HR0 := hid R0; clear hw1 hb1 R0; go_wp2_with fail; refine (L1.out w1).mono ?_; rintro e w2 ⟨rfl, he⟩; rw [he]; clear he; go_wp2_with fail; refine (L2.out w1).mono ?_; rintro e w3 ⟨rfl, he⟩; rw [he]; clear he; go_wp2_with fail; refine (L3.out w1).mono ?_; rintro e w4 ⟨rfl, he⟩; rw [he]; clear he; go_wp2_with fail; refine bodyPost_ret (v := .agg #[.int .i64 (18 + 8 * (k1 : Int)), .int .i64 (2 + (k2 : Int)), .int .i64 (k3 : Int)]) (by simp [results, results11, go_sem, c0, c1, c2]) rfl ⟨rfl, ?_⟩; exact (((HB1.out.setCell (Nat.le_refl _) _).setCell (Nat.le_refl _) _).setCell (Nat.le_refl _) _)
theorem qhp (n : Int) (w : World) : Calls prog 51 #[.int .i64 n] w fun e w' => ∃ s, e = .returned (.string s) ∧ s.size = 1 ∧ w' = w := by
 have L1 := hid (fun W => qd6 n 3 (by decide) (by decide) W); obtain ⟨k, e1, b1⟩ := qd5 n 3 (by decide); simp only [e1] at L1; clear e1; rcases (by omega : k = 0 ∨ k = 1 ∨ k = 2) with rfl | rfl | rfl
 all_goals
  go_enter func51, ntmps51; go_wp2_with fail; refine (L1.out w).mono ?_; rintro e w2 ⟨rfl, he⟩; rw [he]; clear he; go_wp2_with fail; refine (L1.out w).mono ?_; rintro e w3 ⟨rfl, he⟩; rw [he]; clear he; go_wp2_with fail; go_ret; exact ⟨_, rfl, rfl, rfl⟩
end
section
open Go.RowKit
def qA5 : Value → Nat
 | .string s => s.size
 | _ => 0
theorem qex (n : Int) (w : World) : Calls prog 52 #[.int .i64 n] w fun e w' => ∃ s, e = .returned (.string s) ∧ s.size ≤ 200 ∧ w' = w := by
 have L1 := hid (fun W => qd6 n 10 (by decide) (by decide) W); have L2 := hid (fun x W => qd6 x 6 (by decide) (by decide) W); obtain ⟨k, e1, b1⟩ := qd5 n 10 (by decide); simp only [e1] at L1; clear e1; go_enter func52, ntmps52; go_upto_region 1 with fail; go_cut [3] (fun v3 wx => ∃ s, v3 = .string s ∧ s.size = 2 ∧ wx = w)
 case first =>
  rcases (by omega : k = 0 ∨ k = 1 ∨ k = 2 ∨ k = 3 ∨ k = 4 ∨ k = 5 ∨ k = 6 ∨ k = 7 ∨ k = 8 ∨ k = 9) with rfl | rfl | rfl | rfl | rfl | rfl | rfl | rfl | rfl | rfl
  all_goals
   go_wp2_with fail; refine (L1.out w).mono ?_; rintro e w2 ⟨rfl, he⟩; rw [he]; clear he; go_wp2_with fail; refine (L1.out w).mono ?_; rintro e w3 ⟨rfl, he⟩; rw [he]; clear he; go_wp2_with fail; go_meet; exact ⟨_, rfl, rfl, rfl⟩
 obtain ⟨s, rfl, hs, hwc⟩ := hcut; rw [hwc]; clear hwc L1; go_wp2_with fail; refine (L2.out _ w).mono ?_; rintro e w2 ⟨rfl, he⟩; rw [he]; clear he; generalize low _ 6 = v6; rcases Classical.em (v6 = 0) with rfl | hne
 · go_wp2_with fail
   go_loopw [3] (fun v3 wr => ∃ s, v3 = .string s ∧ 2 ≤ s.size ∧ s.size ≤ 200 ∧ wr = w) (fun v3 _ => 200 - qA5 v3)
   case atStart => exact ⟨s, rfl, by omega, by omega, rfl⟩
   case round =>
    obtain ⟨s, rfl, h2, h3, hwr⟩ := hrel; rw [hwr]; clear hwr; by_cases hlt : s.size < 100
    · have hi : (s.size : Int) < 100 := by omega
      have hcat : s.size + s.size ≤ 9223372036854775807 := by omega
      go_wp2_with fail; refine ⟨⟨_, rfl, ?_, ?_, trivial⟩, ?_⟩
      · rw [ByteArray.size_append]; omega
      · rw [ByteArray.size_append]; omega
      · show 200 - (s ++ s).size < 200 - s.size
        rw [ByteArray.size_append]; omega
    · have hi : ¬ (s.size : Int) < 100 := by omega
      go_wp2_with fail; go_ret; exact ⟨s, rfl, h3, rfl⟩
 · have hd : decide (v6 = 0) = false := decide_eq_false hne
   go_wp2_with fail; go_ret; exact ⟨s, rfl, by omega, rfl⟩
structure qem where
 dn : Int
 t : Int
 a : Int
 b : Int
 kA : Option Addr
 kn : Nat
 kc : Nat
def qem.enc (x : qem) : List Value := [.int .i64 x.dn, .int .i64 x.t, .int .i64 x.a, .int .i64 x.b, .slice x.kA x.kn x.kc]
theorem qem.enc_len (x : qem) : x.enc.length = 5 := rfl
theorem Arr.pick {w : World} {B : Nat} {A : Option Addr} {l : List qem} (h : Arr qem.enc 5 w B A l) {i : Nat} (hi : i < l.length) : ∃ b off, A = some ⟨b, off, none⟩ ∧ b < B ∧ w.cell? ⟨b, off + i * 5, none⟩ = some (.int .i64 l[i].dn) ∧ w.cell? ⟨b, off + i * 5 + 1, none⟩ = some (.int .i64 l[i].t) ∧ w.cell? ⟨b, off + i * 5 + 2, none⟩ = some (.int .i64 l[i].a) ∧ w.cell? ⟨b, off + i * 5 + 3, none⟩ = some (.int .i64 l[i].b) ∧ w.cell? ⟨b, off + i * 5 + 4, none⟩ = some (.slice l[i].kA l[i].kn l[i].kc) := by
 rcases h with h | ⟨b, off, hA, hb, hc⟩
 · subst h; exact absurd hi (Nat.not_lt_zero _)
 · exact ⟨b, off, hA, hb, hc i hi 0 _ rfl, hc i hi 1 _ rfl, hc i hi 2 _ rfl, hc i hi 3 _ rfl, hc i hi 4 _ rfl⟩
def qrb (n most : Int) (w : World) (e : Ending) (w' : World) : Prop := ∃ r, e = .returned (.bool r) ∧ w' = w ∧ (r = false → n ≤ most)
theorem qso (l : List qem) (A : Option Addr) (c : Nat) (most : Int) (w : World) (hA : Arr qem.enc 5 w w.heap.size A l) (_hc : l.length ≤ c) (hm : c ≤ 9223372036854775807) : Calls prog 9 #[.slice A l.length c, .int .i64 most] w (qrb l.length most w) := by
 have HA := hid hA; clear hA; go_enter func9, ntmps9; rcases Classical.em (most < (l.length : Int)) with hlt | hlt
 · have hd : decide (most < (l.length : Int)) = true := decide_eq_true hlt
   go_wp2_with fail; go_ret; exact ⟨true, rfl, rfl, fun e => by cases e⟩
 · have hd : decide (most < (l.length : Int)) = false := decide_eq_false hlt
   go_wp2_with fail; go_loopw [5] (fun v5 wr => ∃ k : Nat, k ≤ l.length ∧ v5 = .int .i64 k ∧ wr = w) (fun v5 _ => l.length - (intOf v5).toNat)
   case atStart => exact ⟨0, by omega, rfl, rfl⟩
   case round =>
    obtain ⟨k, hk, rfl, hwr⟩ := hrel; rw [hwr]; clear hwr hd; by_cases hkl : k < l.length
    · have hki : (k : Int) < (l.length : Int) := by omega
      obtain ⟨b, off, rfl, hB, c0, c1, c2, c3, c4⟩ := HA.out.pick hkl; clear c0 c1 c2 c3; rcases Classical.em ((60 : Int) < (l[k].kn : Int)) with h6 | h6
      · have hd6 : decide ((60 : Int) < (l[k].kn : Int)) = true := decide_eq_true h6
        go_wp2_with fail; go_ret; exact ⟨true, rfl, rfl, fun e => by cases e⟩
      · have hd6 : decide ((60 : Int) < (l[k].kn : Int)) = false := decide_eq_false h6
        go_wp2_with fail; exact ⟨⟨k + 1, by omega, by go_num, trivial⟩, by show l.length - ((k : Int) + 1).toNat < l.length - (k : Int).toNat; omega⟩
    · have hki : ¬ (k : Int) < (l.length : Int) := by omega
      go_wp2_with fail; go_ret; exact ⟨false, rfl, rfl, fun _ => by omega⟩
end
end Go.Proofs.YtecikkjbnkhhkaaGreat
