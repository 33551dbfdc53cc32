/- A part of the walk. -/
import Derived.Test.YtecikkjbnkhhkaaGreatP18
import Derived.Test.YtecikkjbnkhhkaaGreatP19
namespace Go.Proofs.YtecikkjbnkhhkaaGreat
open _root_.Go.Proofs.Tryz
set_option maxHeartbeats 4000000
set_option maxRecDepth 100000
section
open Go.RowKit
theorem qgi (w : World) (p : Nat) (x : qa3) (ok : Bool) (hp : p < w.heap.size) (T : ∀ W, Below w.heap.size w W → Calls prog 311 #[.pointer (some ⟨p, 0, none⟩)] W (qed x ok W)) : Calls prog 251 #[.pointer (some ⟨p, 0, none⟩)] w (qed x ok w) := by
 have HT := hid T; have HX := hid (show x.val = .agg #[.string x.key, .int .u64 (x.id : Int), .int .u64 (x.ver : Int), .int .i64 x.line, .int .i64 x.cls] from rfl); clear T; go_enter func251, ntmps251; go_upto_region 1 with fail; generalize hw1 : World.alloc w _ = w1; have R1 : w1.heap[w.heap.size]? = some (.cells qak.enc.toArray 85 (0, 0)) := by rw [← hw1]; exact (qa2 _ _ _).trans (if_pos rfl)
 have b1 : Below w.heap.size w w1 := by rw [← hw1]; exact (Below.refl _ _).alloc (Nat.le_refl _) _
 have HR1 := hid R1; have HB1 := hid b1; have hl1 := qa0 R1; have hp1 : p < w1.heap.size := Nat.lt_of_lt_of_le hp b1.size; clear hw1 R1 b1; go_wp2_with fail; refine (HT.out w1 HB1.out).mono ?_; rintro e w2 ⟨rfl, b2⟩; rw [HX.out]; have R2 := (b2.block _ hl1).trans HR1.out; have HB2 := hid (HB1.out.trans (b2.mono HB1.out.size)); have q0 := cell_of_row w2 _ 0 _ _ _ R2; have q1 := cell_of_row w2 _ 1 _ _ _ R2; have q2 := cell_of_row w2 _ 2 _ _ _ R2; have q3 := cell_of_row w2 _ 3 _ _ _ R2; have q4 := cell_of_row w2 _ 4 _ _ _ R2; have f0 := frozen_of_row w2 _ 0 _ _ R2; have f1 := frozen_of_row w2 _ 1 _ _ R2; have f2 := frozen_of_row w2 _ 2 _ _ R2; have f3 := frozen_of_row w2 _ 3 _ _ R2; have f4 := frozen_of_row w2 _ 4 _ _ R2; have hl2 := qa0 R2; simp only [qa3.enc, List.getElem?_toArray, List.getElem?_cons_zero, List.getElem?_cons_succ] at q0 q1 q2 q3 q4; clear R2 b2; go_wp2_with fail; refine bodyPost_ret (v := .tuple #[x.val, .bool ok]) (by rw [HX.out]; simp [results, results251, go_sem, q0, q1, q2, q3, q4]) rfl ⟨rfl, ?_⟩; have h0 : w.heap.size ≤ w.heap.size := Nat.le_refl _; first
  | exact ((((HB2.out.setCell h0 _).setCell h0 _).setCell h0 _).setCell h0 _).setCell h0 _
  | exact (HB2.out.setCell h0 _)
end
section
open Go.RowKit
def qzy (lo p sc : Nat) (S : List qan) (c : Int) (w : World) (e : Ending) (w' : World) : Prop :=
 (qa9 c = 0 ∧ e = .returned (.tuple #[.int .i64 0, .int .i64 1]) ∧ w' = w) ∨
 (¬ qa9 c = 0 ∧ e = .returned (.tuple #[.int .i64 0, .int .i64 4]) ∧ w' = w ∧ ∀ j (hj : j < S.length), ¬ S[j].cls = -1) ∨
 (∃ (i k : Nat) (hi : i < S.length), ¬ qa9 c = 0 ∧ quz S c i k true ∧ e = .returned (.tuple #[.int .i64 ((2 + i * 8 + k * qa9 c : Nat) : Int), .int .i64 0]) ∧
  qb8 w' lo p sc (S.set i (S[i].put c k)) ∧ Below lo w w' ∧ ∀ b, b ≠ sc → w'.heap[b]? = w.heap[b]?)
theorem qvd (w : World) (lo p sc : Nat) (S : List qan) (h : qb8 w lo p sc S) (c : Int) : Calls prog 301 #[.pointer (some ⟨p, 0, none⟩), .int .i64 c] w (qzy lo p sc S c w) := by
 have H := hid h; have hp := qa0 h.box; have p0 := cell_of_row w p 0 _ _ _ h.box; have hlen := h.len; by_cases hc : qa9 c = 0
 · clear h
   go_enter func301, ntmps301; go_wp2_with fail; refine (qaw c w).mono ?_; rintro e w1 ⟨rfl, rfl⟩; rw [hc]; go_wp2_with fail; go_ret2; exact .inl ⟨hc, rfl, rfl⟩
 · have hce : (((qa9 c : Nat) : Int) == 0) = false := by rw [beq_eq_false_iff_ne]; omega
   have hs8 : qa9 c ≤ 8 := by rcases qet c with h | h | h | h | h <;> omega
   have TF := hid (qwn w lo p sc S h c hc); clear h; go_enter func301, ntmps301; go_wp2_with fail; refine (qaw c w).mono ?_; rintro e w1 ⟨rfl, rfl⟩; go_wp2_with fail; refine TF.out.mono ?_; rintro e w2 ⟨rfl, i, k, ok, rfl, hf⟩; have HF := hid hf; clear hf hce; cases ok with
   | false =>
    go_wp2_with fail; go_ret2; exact .inr (.inl ⟨hc, rfl, rfl, HF.out.2 rfl⟩)
   | true =>
    obtain ⟨hi, hk8, -⟩ := HF.out.1 rfl; have hii : (i : Int) < (S.length : Int) := by omega
    have hscl := (H.out.slab hi).lt; have TT := hid (qro w2 lo p sc S H.out i k hi hk8 c); have hsl : qha i = 2 + (i : Int) * 8 := by unfold qha; rw [if_neg (by omega)]
    have HSL := hid hsl; have hks : k * qa9 c ≤ 64 := by
     calc k * qa9 c ≤ 8 * 8 := Nat.mul_le_mul (by omega) hs8
      _ = 64 := rfl
    clear hsl; go_wp2_with fail; refine TT.out.mono ?_; rintro e w3 ⟨rfl, hP, hb, hoth⟩; have HP := hid (And.intro hP (And.intro hb hoth)); clear hP hb hoth p0; go_wp2_with fail; refine (qjs i w3).mono ?_; rintro e w4 ⟨rfl, rfl⟩; rw [HSL.out]; go_wp2_with fail; refine (qaw c w4).mono ?_; rintro e w5 ⟨rfl, rfl⟩; have HE := hid (show ((2 + i * 8 + k * qa9 c : Nat) : Int) = 2 + (i : Int) * 8 + (k : Int) * (qa9 c : Int) by push_cast; rfl); have hbn : (0 : Int) ≤ (k : Int) * (qa9 c : Int) ∧ (k : Int) * (qa9 c : Int) ≤ 64 := by rw [← Int.natCast_mul]; omega
    have j1 : IntKind.i64.wrap ((k : Int) * (qa9 c : Int)) = (k : Int) * (qa9 c : Int) := Go.IntWalk.i64_in _ (by omega); have j2 : IntKind.i64.wrap (2 + (i : Int) * 8 + (k : Int) * (qa9 c : Int)) = 2 + (i : Int) * 8 + (k : Int) * (qa9 c : Int) := Go.IntWalk.i64_in _ (by omega); go_wp2_with fail; go_ret2; exact .inr (.inr ⟨i, k, hi, hc, HF.out, by rw [HE.out]; rfl, HP.out.1, HP.out.2.1, HP.out.2.2⟩)
end
section
open Go.RowKit
theorem qyo {α : Type} {enc : α → List Value} {e : TypeId} {n lo : Nat} {l : List α} {A : Option Addr} {c : Nat} {w : World} (ho : Own enc e n w lo A c l) : ∀ b, some b = qa8 A c → b < w.heap.size := fun b hb => by
 rcases ho.lt with h0 | ⟨b', off, hA, _, hlt⟩
 · rw [qa8, if_pos h0] at hb; cases hb
 · rw [qa8] at hb
   split at hb
   · cases hb
   · rw [hA] at hb; cases hb; exact hlt
theorem qnf (w : World) (lo p : Nat) (A : Option Addr) (c : Nat) (Q : List qa3) (h : qmi w lo p A c Q) (hQ : ¬ Q = []) (hlow : lo ≤ w.heap.size) (hL : ∀ L at' n, qbo w lo p A c L at' n → L.length ≤ 1000000) : Calls prog 346 #[.pointer (some ⟨p, 0, none⟩)] w (qks lo p A c Q w) := by
 obtain ⟨L, at', n, h1, rfl⟩ := h; have hl := hL L at' n h1; have hp := qa0 h1.box; have H1 := hid h1; have hn : ¬ n = 0 := fun h0 => hQ (by rw [h0]; simp [qd4])
 have T : ∀ W, Below w.heap.size w W → Calls prog 366 #[.pointer (some ⟨p, 0, none⟩)] W (qks lo p A c (qd4 L at' n) W) := fun W hb =>
  qn3 W lo p A c L at' n (H1.out.keep (hb.block p hp) (fun b _ hlt => hb.block b hlt)) hn (Nat.le_trans hlow hb.size) hl
 have HT := hid T; have HNR := hid (qyo H1.out.rows); clear T h1 hL hQ; go_enter func346, ntmps346; go_upto_region 1 with fail; generalize hw1 : World.alloc w _ = w1; have R1 : w1.heap[w.heap.size]? = some (.cells qak.enc.toArray 85 (0, 0)) := by rw [← hw1]; exact (qa2 _ _ _).trans (if_pos rfl)
 have b1 : Below w.heap.size w w1 := by rw [← hw1]; exact (Below.refl _ _).alloc (Nat.le_refl _) _
 have hl1 := qa0 R1; have HB1 := hid b1; have HR1 := hid R1; have hp1 := Nat.lt_of_lt_of_le hp b1.size; clear hw1 R1 b1; go_wp2_with fail; refine (HT.out w1 HB1.out).mono ?_; rintro e w2 ⟨x, Q', hq, rfl, hto⟩; have HTO := hid hto; have HQ := hid hq; have hpw : w.heap.size ≠ p := by omega
 have hrw : some w.heap.size ≠ qa8 A c := fun h0 => by have := HNR.out _ h0; omega
 have R2 := (hto.keep _ hl1 hpw hrw).trans HR1.out; have hl2 := qa0 R2; have HR2 := hid R2; have HX := hid (show x.val = .agg #[.string x.key, .int .u64 (x.id : Int), .int .u64 (x.ver : Int), .int .i64 x.line, .int .i64 x.cls] from rfl); rw [HX.out]; have f0 := frozen_of_row w2 _ 0 _ _ R2; have f1 := frozen_of_row w2 _ 1 _ _ R2; have f2 := frozen_of_row w2 _ 2 _ _ R2; have f3 := frozen_of_row w2 _ 3 _ _ R2; have f4 := frozen_of_row w2 _ 4 _ _ R2; have q0 := cell_of_row w2 _ 0 _ _ _ R2; have q1 := cell_of_row w2 _ 1 _ _ _ R2; have q2 := cell_of_row w2 _ 2 _ _ _ R2; have q3 := cell_of_row w2 _ 3 _ _ _ R2; have q4 := cell_of_row w2 _ 4 _ _ _ R2; simp only [qa3.enc, List.getElem?_toArray, List.getElem?_cons_zero, List.getElem?_cons_succ] at q0 q1 q2 q3 q4; clear R2 hto hq; have HO8 : Hid (∀ j, j ≠ w.heap.size → (w2.setCells w.heap.size 0 x.enc).heap[j]? = w2.heap[j]?) := hid fun j hj => qaa _ _ _ _ j hj
 go_wp2_with fail; refine bodyPost_ret (v := .tuple #[x.val, .bool true]) (qdq results346 _ _ w.heap.size x _ (by simp) (by simp) (box5 HR2.out)) rfl ⟨x, Q', HQ.out, rfl, ?_⟩; obtain ⟨⟨A', c', ⟨L', a2, n2, hf, hq'⟩, hloc⟩, hbel, hk, hring⟩ := HTO.out; have hs1 := HB1.out.size; refine ⟨⟨A', c', ⟨L', a2, n2, hf.keep (HO8.out p (fun h0 => hpw h0.symm)) (fun b hb hlt => HO8.out b fun h0 => ?_), hq'⟩, hloc.imp id fun ⟨g, off, h1, h2⟩ => ⟨g, off, h1, by omega⟩⟩, ?_, fun b hb hbp hbr => ?_, fun K hK hQ' => (hring K (hK.same (HB1.out.block p hp)) hQ').same (HO8.out p (fun h0 => hpw h0.symm))⟩
 · rw [h0] at hb
   rcases hloc with ⟨rfl, rfl⟩ | ⟨g, off, rfl, hg⟩
   · exact hrw hb
   · rw [qa8] at hb
     split at hb
     · cases hb
     · simp at hb; omega
 · exact qae hlow x.enc 0 w2 ((HB1.out.mono hlow).trans hbel)
 · exact (HO8.out b (by omega)).trans ((hk b (by omega) hbp hbr).trans (HB1.out.block b hb))
theorem qng (w : World) (lo p : Nat) (A : Option Addr) (c : Nat) (Q : List qa3) (h : qmi w lo p A c Q) (hL : ∀ L at' n, qbo w lo p A c L at' n → L.length ≤ 900000) : Calls prog 63 #[.pointer (some ⟨p, 0, none⟩)] w (qdl Q w) := by
 obtain ⟨L, at', n, h1, rfl⟩ := h; have T := hid (qn5 w lo p A c L at' n h1 (hL L at' n h1)); have hp := qa0 h1.box; clear h1 hL; go_enter func63, ntmps63; go_wp2_with fail; refine T.out.mono ?_; rintro e w1 ⟨A', c', rfl, hown, hb⟩; have HO := hid hown; have HB := hid hb; clear hown hb; go_wp2_with fail; go_ret; exact ⟨A', c', rfl, HO.out, HB.out⟩
end
section
open Go.RowKit
theorem Own.notObj {α : Type} {enc : α → List Value} {e : TypeId} {k : Nat} {w : World} {lo : Nat} {A : Option Addr} {c p : Nat} {l : List α} {o : Obj} (own : Own enc e k w lo A c l) (hb : w.heap[p]? = some o) (hne : ∀ cs t, o ≠ .cells cs t (0, 0)) : some p ≠ qa8 A c := by
 intro h0; rcases own.2.2 with h1 | ⟨b, off, cur, hA, _, hh, _⟩
 · rw [qa8, if_pos h1] at h0; cases h0
 · rw [qa8] at h0
   split at h0
   · cases h0
   · rw [hA] at h0
     have : p = b := by simpa using h0
     subst this; rw [hb] at hh; exact hne _ _ (Option.some.inj hh)
theorem Own.grown2 {α : Type} {enc : α → List Value} {e : TypeId} {k : Nat} {w w' : World} {lo : Nat} {A : Option Addr} {c : Nat} {l : List α} {row : Option Nat} (own : Own enc e k w lo A c l) (hg : w.grownBy w' row) (hne : row = none ∨ row ≠ qa8 A c) : Own enc e k w' lo A c l := by
 refine own.keep2 ?_; by_cases hc : c = 0
 · exact .inl hc
 · refine .inr fun b off hA hlt => hg.block b hlt fun h0 => ?_
   rcases hne with rfl | hne
   · cases h0
   · exact hne (by rw [← h0, qa8, if_neg hc, hA]; rfl)
theorem qw7 (x : qa3) : x.val = .agg #[.string x.key, .int .u64 (x.id : Int), .int .u64 (x.ver : Int), .int .i64 x.line, .int .i64 x.cls] := rfl
theorem qic {w w' : World} {r it : Nat} (h1 : w'.heap[r]? = w.heap[r]?) (h2 : w'.heap[it]? = w.heap[it]?) : w'.rangeLeft r it = w.rangeLeft r it := by
 unfold World.rangeLeft; rw [h1, h2]
def catB (B : Nat → List qa3) : Nat → List qa3
 | 0 => []
 | n + 1 => catB B n ++ B n
theorem qzj (B : Nat → List qa3) {i n : Nat} (h : i ≤ n) : (catB B i).length ≤ (catB B n).length := by
 induction n with
 | zero =>
  obtain rfl : i = 0 := by omega
  exact Nat.le_refl _
 | succ n ih =>
  rcases (by omega : i = n + 1 ∨ i ≤ n) with rfl | h
  · exact Nat.le_refl _
  · rw [catB, List.length_append]
    have := ih h; omega
def qA4 (B : Nat → List qa3) (l : List qa3) : Prop := l.Perm (catB B 8) ∧ l.Pairwise fun x y => kl y.key x.key = false
def qku (B : Nat → List qa3) (w : World) (e : Ending) (w' : World) : Prop := ∃ A c l, e = .returned (.slice A l.length c) ∧ Own qa3.enc 85 5 w' w.heap.size A c l ∧ Below w.heap.size w w' ∧ qA4 B l
theorem qyl (mb : Nat → Nat) {i : Nat} (hi : i < 8) (W : World) : (Instr.index 196 (.agg #[.map (some (mb 0)), .map (some (mb 1)), .map (some (mb 2)), .map (some (mb 3)), .map (some (mb 4)), .map (some (mb 5)), .map (some (mb 6)), .map (some (mb 7))]) (.int .i64 (i : Int))).run prog W = .ok (.map (some (mb i))) W := by
 rcases (by omega : i = 0 ∨ i = 1 ∨ i = 2 ∨ i = 3 ∨ i = 4 ∨ i = 5 ∨ i = 6 ∨ i = 7) with rfl | rfl | rfl | rfl | rfl | rfl | rfl | rfl <;> kernel_rfl
section
variable {F : Nat → Prop} {w : World} {tb : Nat} {mb : Nat → Nat} {B : Nat → List qa3}
theorem qio (h : qbk F w tb mb B) (hl : (catB B 8).length ≤ 900000) : Calls prog 60 #[.pointer (some ⟨tb, 0, none⟩)] w (qku B w) := by
 have H := hid h; have HL := hid hl; have t0 := h.cell (i := 0) (by omega); have t1 := h.cell (i := 1) (by omega); have t2 := h.cell (i := 2) (by omega); have t3 := h.cell (i := 3) (by omega); have t4 := h.cell (i := 4) (by omega); have t5 := h.cell (i := 5) (by omega); have t6 := h.cell (i := 6) (by omega); have t7 := h.cell (i := 7) (by omega); clear h hl; go_enter func60, ntmps60; go_wp2_with fail; clear t0 t1 t2 t3 t4 t5 t6 t7; go_loopw [3, 15] (fun v3 v15 wr => ∃ (i : Nat) (A' : Option Addr) (c' : Nat) (S : List qa3), i ≤ 8 ∧ v15 = .int .i64 i ∧ v3 = .slice A' S.length c' ∧ Hid (S.Perm (catB B i)) ∧ Own qa3.enc 85 5 wr w.heap.size A' c' S ∧ Below w.heap.size w wr) (fun _ v15 _ => 8 - (intOf v15).toNat)
 case atStart => exact ⟨0, none, 0, [], by omega, rfl, rfl, hid (List.Perm.refl _), Own.none_, Below.refl _ _⟩
 case round =>
  obtain ⟨i, A', c', S, hi, rfl, rfl, HS, hown, hb⟩ := hrel; have HO := hid hown; have HB := hid hb; have hsz := hb.size; by_cases hlt : i < 8
  · have hlti : (i : Int) < 8 := by omega
    have hid0 := qyl mb hlt wr; have HM := hid ((H.out.below hb).map i hlt); have HSB : Hid (S.length + (B i).length ≤ 900000) := hid (by
     have := qzj B (i := i + 1) (n := 8) (by omega)
     rw [catB, List.length_append] at this
     have h2 := HS.out.length_eq
     have := HL.out
     omega)
    clear hown hb; go_wp2_with ((at_range; refine qi8 rfl (.tmp 18) rfl rfl HM.out ?_; intro wI hit hgI hzI)); go_frame; obtain ⟨wo, hwo⟩ : ∃ x, x = wr := ⟨_, rfl⟩; subst hwo; have HO1 : Hid (Own qa3.enc 85 5 wI w.heap.size A' c' S) := hid (HO.out.grown hgI (fun _ _ _ => by simp)); have HB1 : Hid (Below w.heap.size w wI) := hid (HB.out.grown hgI hsz (fun k hk => by cases hk)); have HGI := hid hgI; have hwz : w.heap.size ≤ wo.heap.size := hsz; have hmo := HM.out.lt; clear hgI; go_loopw [3] (fun v3 wx => ∃ (A2 : Option Addr) (c2 : Nat) (S2 : List qa3) (I : List Nat), v3 = .slice A2 (S2.length) c2 ∧ Hid (S2 = S ++ qld (B i) I) ∧ Own qa3.enc 85 5 wx w.heap.size A2 c2 S2 ∧ Below w.heap.size w wx ∧ qkr wx (mb i) wo.heap.size (B i) I) (fun _ wx => wx.rangeLeft (mb i) wo.heap.size)
    case atStart => exact ⟨A', c', S, [], rfl, hid (by simp [qld]), HO1.out, HB1.out, hit⟩
    case round =>
     obtain ⟨A2, c2, S2, I, rfl, HS2, hown2, hb2, hit2⟩ := hrel; have HO2 := hid hown2; have HB2 := hid hb2; have hs2 := hb2.size; have hlI := hit2.lt; have hrw : some wo.heap.size ≠ qa8 A2 c2 := fun h0 => by
      obtain ⟨es, clock, since, seen, c0, _, _, q3, _⟩ := hit2; exact HO2.out.notObj q3 (fun _ _ h => by cases h) h0
     have hrm : some (mb i) ≠ qa8 A2 c2 := fun h0 => by
      obtain ⟨es, clock, since, seen, c0, q1, _⟩ := hit2; exact HO2.out.notObj q1 (fun _ _ h => by cases h) h0
     have HR := hid (And.intro hrw hrm); have HIL : Hid (S2.length ≤ 900000) := hid (by
      obtain ⟨es, clock, since, seen, c0, _, hm, _, _, _, _, hn, hl, _⟩ := hit2
      have h1 : I.length ≤ (B i).length := by
       have := hn.length_le_of_subset (l₂ := List.range (B i).length) (fun k hk => List.mem_range.2 (hl k hk))
       rwa [List.length_range] at this
      have h2 := HSB.out
      rw [HS2.out, List.length_append, qld, List.length_map]
      omega)
     have HIT0 := hid hit2; clear hown2 hb2 hrw hrm; go_wp2_with (first
      | (at_next; refine qji rfl (.tmp 19) rfl rfl HIT0.out ?_ ?_ <;> (try (intro j x wN hx hcont hlt2 hgN hzN hen; have HX := hid hx; clear hx; rw [qw7 x] at hen ⊢; have HON := hid (HO2.out.grown2 hgN (.inr HR.out.1)); have HGN := hid hgN; have HIT := hid hcont; have HLT := hid hlt2; clear hcont hlt2 hgN)))
      | (at_builtin; refine qdv (l := S2) (m := [x]) (A := A2) (c := c2) (lo := w.heap.size) _ rfl (.tmp 24) (.tmp 26) rfl (by simp [Act.eval]) ((HON.out.alloc _).alloc _) (A2 := some ⟨wN.heap.size + 1, 0, none⟩) 1 (by simp [Act.eval]) (qdu (x := x) (by rw [qa2, if_pos (by simp)]; rfl)) (by have := HIL.out; simp; omega) (by simp; omega) ?_; intro A5 c5 w5 hown5 hgr5 hloc5))
     · intro hperm
       have HNX : Hid (S2.Perm (catB B (i + 1))) := hid (by rw [HS2.out]; exact HS.out.append hperm); clear hperm; go_wp2_with fail; exact ⟨⟨i + 1, A2, c2, S2, by omega, by go_num, rfl, HNX, HO2.out, HB2.out⟩, by simp [intOf]; omega⟩
     · have hsN : wr.heap.size ≤ wN.heap.size := HGN.out.size
       have bN : Below w.heap.size w wN := HB2.out.grown HGN.out hs2 (fun k hk => by cases hk; exact hwz); have b5 : Below w.heap.size w w5 := qck ((HON.out.alloc _).alloc _) hgr5 ((bN.alloc (by omega) _).alloc (by simp; omega) _) (by simp; omega); have hk5 : ∀ k, k < wN.heap.size → some k ≠ qa8 A2 c2 → w5.heap[k]? = wN.heap[k]? := fun k hk hne => (hgr5.block k (by simp; omega) hne).trans ((Below.heap_alloc _ _ _ (by simp; omega)).trans (Below.heap_alloc _ _ _ hk))
       have e1 := hk5 (mb i) (by omega) HR.out.2; have e2 := hk5 wo.heap.size (by omega) HR.out.1; refine ⟨⟨A5, c5, S2 ++ [x], I ++ [j], by simp, hid (by rw [HS2.out, HX.out]; simp [qld]), hown5, b5, HIT.out.same e1 e2⟩, ?_⟩; rw [qic e1 e2]; exact HLT.out
  · obtain rfl : i = 8 := by omega
    have HSP := hid HS.out; have hSl : S.length ≤ 900000 := by rw [HS.out.length_eq]; exact HL.out
    clear hown hb; go_wp2_with fail; refine (qjr S A' c' w.heap.size wr HO.out (by omega)).mono ?_; rintro e w2 ⟨rfl, l', hp, hw, hown, honly⟩; have HO2 := hid hown; have HPW := hid (And.intro hp hw); have HB2 : Hid (Below w.heap.size w w2) := hid (HB.out.trans ⟨honly.os, honly.tape, honly.output, honly.size, fun k hk => honly.block k (by omega) fun h0 => by
     rcases HO.out.lt with h1 | ⟨b, off, hA, hlo, _⟩
     · rw [qa8, if_pos h1] at h0; cases h0
     · rw [qa8] at h0
       split at h0
       · cases h0
       · rw [hA] at h0; simp at h0; omega⟩)
    have hll : l'.length = S.length := hp.length_eq; have HLL := hid hll; clear hp hw hown honly hll; go_wp2_with fail; go_ret; exact ⟨A', c', l', by rw [HLL.out]; rfl, HO2.out, HB2.out, HPW.out.1.trans HSP.out, HPW.out.2⟩
end
end
end Go.Proofs.YtecikkjbnkhhkaaGreat
