/- A part of the walk. -/
import Derived.Test.YtecikkjbnkhhkaaGreatP29
namespace Go.Proofs.YtecikkjbnkhhkaaGreat
open _root_.Go.Proofs.Tryz
set_option maxHeartbeats 4000000
set_option maxRecDepth 100000
section
open Go.RowKit
def LocK (K : Nat → Prop) {α : Type} (A : Option Addr) (l : List α) : Prop := l = [] ∨ ∃ x off, A = some ⟨x, off, none⟩ ∧ K x
structure FrAt (K : Nat → Prop) (w : World) (f : qa5) (d : FrD) : Prop where
 fin : qbt w w.heap.size f d.gr d.bs d.ps d.hs
 grp : LocK K f.call.gA d.gr
 byt : LocK K f.bA d.bs
 prt : LocK K f.pA d.ps
 hit : LocK K f.hA d.hs
structure qdm (f : qa5) (d : FrD) (f1 : qa5) (d1 : FrD) : Prop where
 eq : ∃ y bA bc pA pc hA hc, f1 = f.as y d bA bc pA pc hA hc ∧ CSim y f.call
 gr : Sims d1.gr d.gr
 bs : d1.bs = d.bs
 ps : d1.ps = d.ps
 hs : d1.hs = d.hs
def qcy (a : Nat) (P : qag) (R : qa5 → FrD → qa4 → qa5 → FrD → Prop) (f : qa5) (d : FrD) (g : Own8) (w : World) (r : Ending) (w' : World) : Prop :=
 ∃ f1 d1 M' f' d' g', r = .returned f'.v ∧ qdm f d f1 d1 ∧ R f1 d1 M' f' d' ∧ qa6 g' w' a P M' ∧ Ext g g' w w' ∧ FrAt (fun x => g' x = 0 ∧ w.heap.size ≤ x) w' f' d'
section
variable {g g' : Own8} {w w' : World} {lo a b t : Nat} {P : qag} {M M' : qa4} {ty : TypeId} {f f' : qa5} {d d' : FrD}
theorem qys {α : Type} {enc : α → List Value} {e : TypeId} {k : Nat} {A : Option Addr} {c : Nat} {l : List α} {K : Nat → Prop} (h : Own enc e k w lo A c l) (hK : ∀ x, qa8 A c = some x → K x) : LocK K A l := by
 rcases h.2.2 with h0 | ⟨x, off, cur, hA, hlo, r⟩
 · exact .inl (List.eq_nil_of_length_eq_zero (by have := h.1; omega))
 · by_cases hc : c = 0
   · exact .inl (List.eq_nil_of_length_eq_zero (by have := h.1; omega))
   · refine .inr ⟨x, off, hA, hK x ?_⟩
     rw [hA, qa8, if_neg hc]; rfl
theorem qgz {w1 w2 : World} (h : qa6 g w a P M) {y : qa7} {Mg : List qa7} {bA pA hA : Option Addr} {bc pc hc : Nat} (hcp : qyg f d lo w1 y Mg bA bc pA pc hA hc) (hlo : w.heap.size ≤ lo) (hlo1 : lo ≤ w1.heap.size) (hgl : Mg = [] ∨ ∃ x off, y.gA = some ⟨x, off, none⟩ ∧ w.heap.size ≤ x)
 (hb1 : Below w.heap.size w w1) (hty : qoe ty) (hb2 : Below w1.heap.size w1 w2) (hw : qbq w2 w1.heap.size a t ty (f.as y d bA bc pA pc hA hc)) : WSt g w2 lo a P M w1.heap.size t ty (f.as y d bA bc pA pc hA hc) { gr := Mg, bs := d.bs, ps := d.ps, hs := d.hs } := by
 have hs2 := hb2.size; have hs1 := hb1.size; have hrw : ∀ {α : Type} {enc : α → List Value} {e : TypeId} {k : Nat} {A : Option Addr} {c : Nat} {l : List α}, Own enc e k w1 lo A c l → qc8 g 0 A c := fun ho j hj => h.far j (by have := qe4 ho j hj; omega)
 refine ⟨h.below (hb1.trans (hb2.mono hb1.size)), hw, h.far _ hb1.size, hty, ⟨?_, ?_⟩, ⟨hcp.byt.below hb2, rfl, hrw hcp.byt⟩, ⟨hcp.prt.below hb2, rfl, hrw hcp.prt⟩, ⟨hcp.hit.below hb2, rfl, hrw hcp.hit⟩⟩
 · exact (hcp.grp.below (hb2.mono hlo1)).more (by omega)
 · rcases hgl with h0 | ⟨x, off, hA, hx⟩
   · exact .inl h0
   · rcases hcp.grp.1 with h0 | ⟨x', off', hA', hx', _⟩
     · exact .inl h0
     · rw [hA] at hA'
       cases hA'
       exact .inr ⟨x, off, hA, h.far x hx, by omega, hx'⟩
theorem qjh (h : WSt g w lo a P M b t ty f d) (q : Nat) (hq : q ≤ lo) (hgr : d.gr = [] ∨ ∃ x off, f.call.gA = some ⟨x, off, none⟩ ∧ q ≤ x) : FrAt (fun x => g x = 0 ∧ q ≤ x) w f d := by
 have hs : ∀ {α : Type} {enc : α → List Value} {e : TypeId} {k : Nat} {A : Option Addr} {n c : Nat} {l : List α}, (∀ x, (enc x).length = k) → RowG g enc e k w lo A n c l → Sl enc k w w.heap.size A n c l ∧ LocK (fun x => g x = 0 ∧ q ≤ x) A l := fun hk ho =>
  ⟨⟨ho.1.arr hk, ho.2.1, ho.1.1, by have := ho.1.2.1; unfold maxLen at this; omega⟩, qys ho.1 fun x hx => ⟨ho.2.2 x hx, by have := qe4 ho.1 x hx; omega⟩⟩
 obtain ⟨b1, b2⟩ := hs qbn h.byt; obtain ⟨p1, p2⟩ := hs qas.enc_len h.prt; obtain ⟨h1, h2⟩ := hs qfd h.hit; refine ⟨⟨h.grp.1, b1, p1, h1⟩, ?_, b2, p2, h2⟩; rcases hgr with h0 | ⟨x, off, hA, hx⟩
 · exact .inl h0
 · rcases h.grp.2 with h0 | ⟨x', off', hA', hx', _⟩
   · exact .inl h0
   · rw [hA] at hA'
     cases hA'
     exact .inr ⟨x, off, hA, hx', hx⟩
theorem Sl.keepK {α : Type} {enc : α → List Value} {k : Nat} {A : Option Addr} {n c : Nat} {l : List α} {K : Nat → Prop} (h : Sl enc k w w.heap.size A n c l) (hm : LocK K A l) (hs : w.heap.size ≤ w'.heap.size) (hk : ∀ x, x < w.heap.size → K x → w'.heap[x]? = w.heap[x]?) : Sl enc k w' w'.heap.size A n c l := by
 refine ⟨?_, h.2⟩; rcases hm with h0 | ⟨x, off, hA, hx⟩
 · exact .inl h0
 · rcases h.1 with h0 | ⟨x', off', hA', hx', hc⟩
   · exact .inl h0
   · rw [hA] at hA'
     cases hA'
     refine .inr ⟨x, off, hA, by omega, fun i hi j u hu => ?_⟩; rw [← hc i hi j u hu]; exact qaj (p := ⟨x, off + i * k + j, none⟩) (hk x hx' hx)
theorem FrAt.keep {K : Nat → Prop} (h : FrAt K w f d) (hs : w.heap.size ≤ w'.heap.size) (hk : ∀ x, x < w.heap.size → K x → w'.heap[x]? = w.heap[x]?) : FrAt K w' f d :=
 ⟨⟨h.fin.1.keepK h.grp hs hk, h.fin.2.keepK h.byt hs hk, h.fin.3.keepK h.prt hs hk, h.fin.4.keepK h.hit hs hk⟩, h.grp, h.byt, h.prt, h.hit⟩
theorem LocK.mono {K K' : Nat → Prop} {α : Type} {A : Option Addr} {l : List α} (h : LocK K A l) (hk : ∀ x, K x → K' x) : LocK K' A l := by
 rcases h with h0 | ⟨x, off, hA, hx⟩
 · exact .inl h0
 · exact .inr ⟨x, off, hA, hk x hx⟩
theorem FrAt.mono {K K' : Nat → Prop} (h : FrAt K w f d) (hk : ∀ x, K x → K' x) : FrAt K' w f d := ⟨h.fin, h.grp.mono hk, h.byt.mono hk, h.prt.mono hk, h.hit.mono hk⟩
theorem qbq.range (h : qbq w b a t ty f) : w.rangeAt b 2 f.enc := fun j v hv => by
 have := h.c (2 + j) (v := v) (by rw [← hv, Nat.add_comm]; rfl)
 exact this
end
end
section
open Go.RowKit
def ptN : Nat → Nat
 | 0 => 181
 | 1 => 182
 | 2 => 183
 | 3 => 184
 | 4 => 185
 | 5 => 186
 | _ => 187
theorem qa5.v_eq (f : qa5) : f.v = .agg #[.int .i64 f.call.kind, .string f.call.key, .string f.call.val, .string f.call.tx, .slice f.call.gA f.call.gn f.call.gc, .int .i64 f.phase, .int .u64 (f.ep : Int), .string f.pos, .bool f.past, .int .i64 f.level, .bool f.had,
 .string f.old.key, .int .u64 (f.old.id : Int), .int .u64 (f.old.ver : Int), .int .i64 f.old.line, .int .i64 f.old.cls, .int .i64 f.line, .int .i64 f.cls, .int .i64 f.piece, .slice f.bA f.bn f.bc, .int .i64 f.at', .slice f.pA f.pn f.pc,
 .int .i64 f.code, .bool f.found, .string f.vl, .slice none 0 0, .slice f.hA f.hn f.hc, .int .u64 (f.aep : Int)] := rfl
section
variable {g : Own8} {w : World} {a t : Nat} {P : qag} {M : qa4}
theorem qis {R : qa5 → FrD → qa4 → qa5 → FrD → Prop} (h : qa6 g w a P M) (f : qa5) (d : FrD) (hf : qbt w w.heap.size f d.gr d.bs d.ps d.hs) (hfit : quy d) (hk1 : 1 ≤ f.call.kind) (hk3 : f.call.kind ≤ 3) (k : Nat) (hk7 : k < 7) (hph : f.phase = (k : Int))
 (HP : ∀ g1 W b lo f1 d1, qdm f d f1 d1 → WSt g1 W lo a P M b t 281 f1 d1 → lo ≤ W.heap.size → Calls prog (ptN k) #[.pointer (some ⟨b, 0, none⟩)] W (qal lo a P b t 281 (R f1 d1) g1 W))
 (HR : ∀ f1 d1 M' f' d', R f1 d1 M' f' d' → f'.call = f1.call ∧ d'.gr = d1.gr) : Calls prog 109 #[.pointer (some ⟨a, 0, none⟩), .int .i64 (t : Int), f.v] w (qcy a P R f d g w) := by
 have H := hid h; have HF := hid hf; have HFF := hid hfit; have HHP := hid HP; have HHR := hid HR; have HV := hid f.v_eq; have HPH := hid hph; rw [HV.out]; clear h hf hfit HP HR hph; go_enter func109, ntmps109; go_upto_region 1 with fail; generalize hw1 : World.alloc _ _ = w1; have R0 : w1.heap[w.heap.size]? = some (.cells f.enc.toArray 89 (0, 0)) := by rw [← hw1]; exact (Below.heap_alloc _ _ _ (by simp)).trans ((qa2 _ _ _).trans (if_pos rfl))
 obtain ⟨cur, R1, hcur⟩ : ∃ cur, w1.heap[w.heap.size + 1]? = some (.cells cur 89 (0, 0)) ∧ cur.size = 28 := ⟨_, by rw [← hw1]; exact (qa2 _ _ _).trans (if_pos (by simp)), rfl⟩; have b1 : Below w.heap.size w w1 := by rw [← hw1]; exact ((Below.refl _ _).alloc (Nat.le_refl _) _).alloc (by simp) _
 have hl0 := qa0 R0; have hl1 := qa0 R1; have HR0 := hid R0; have HR1 := hid R1; have HB1 := hid b1; have HC := hid hcur; have HRA := hid (qb5 R0); have TC := hid (qg6 f d w1 ((HF.out.below b1).more b1.size) HFF.out); clear hw1 R0 R1 b1 hcur; go_upto_region 2 with (refine wpList_load_mid rfl 89 (.tmp 5) rfl w.heap.size 0 (by first | rfl | simp [Act.eval]) f.enc _ HRA.out underlying89 rfl qaf ?_); refine TC.out.mono ?_; rintro e w2 ⟨y, Mg, bA, bc, pA, pc, hA, hc, lo, rfl, hlo, hlo2, hcp, hb2, hgl⟩; have hsm := And.intro hcp.sim hcp.sims; have hz1 := HB1.out.size; have R0 := qac hb2 hl0 HR0.out; have R1 := qac hb2 hl1 HR1.out; have hl12 := hl1; clear hl0 hl1 HR0 HR1; obtain ⟨f1, hf1⟩ : ∃ f1, f1 = f.as y d bA bc pA pc hA hc := ⟨_, rfl⟩; obtain ⟨d1, hd1⟩ : ∃ d1 : FrD, d1 = { gr := Mg, bs := d.bs, ps := d.ps, hs := d.hs } := ⟨_, rfl⟩; have HST : Hid (∀ w3, Below w2.heap.size w2 w3 → qbq w3 w2.heap.size a t 281 f1 → WSt g w3 lo a P M w2.heap.size t 281 f1 d1) := hid fun w3 hb3 hw3 => by
  rw [hf1] at hw3 ⊢; rw [hd1]; refine qgz H.out hcp (by omega) hlo2 ?_ (HB1.out.trans (hb2.mono hz1)) (.inl rfl) hb3 hw3; rcases hgl with h0 | ⟨x, off, h1, h2⟩
  · exact .inl h0
  · exact .inr ⟨x, off, h1, by omega⟩
 have HSAME : Hid (qdm f d f1 d1) := hid ⟨⟨y, bA, bc, pA, pc, hA, hc, hf1, hsm.1⟩, by rw [hd1]; exact hsm.2, by rw [hd1], by rw [hd1], by rw [hd1]⟩; have HGL : Hid (d1.gr = [] ∨ ∃ x off, f1.call.gA = some ⟨x, off, none⟩ ∧ w.heap.size + 2 ≤ x) := hid (by
  rw [hf1, hd1]
  rcases hgl with h0 | ⟨x, off, h1, h2⟩
  · exact .inl h0
  · exact .inr ⟨x, off, h1, by omega⟩)
 have HLO := hid (show w.heap.size ≤ lo ∧ lo ≤ w2.heap.size ∧ w.heap.size + 1 < lo by omega); have HB2 := hid (HB1.out.trans (hb2.mono HB1.out.size)); rw [← hf1, f1.v_eq]; have hl0 := qa0 R0; have hl1 := qa0 R1; have HR0 := hid R0; have HR1 := hid R1; clear hcp hb2 hgl hsm hf1 hd1 hl12 TC R0 R1 HRA hlo hlo2 hz1 HB1; go_upto_region 2 with fail; generalize hw3 : World.alloc _ _ = w3; have R2 : w3.heap[w2.heap.size]? = some (.cells (qi9 a t f1).toArray 281 (0, 0)) := by rw [← hw3]; exact (qa2 _ _ _).trans (if_pos rfl)
 have b3 : Below w2.heap.size w2 w3 := by rw [← hw3]; exact (Below.refl _ _).alloc (Nat.le_refl _) _
 have W3 := HST.out w3 b3 R2; have R0 := qac b3 hl0 HR0.out; have R1 := qac b3 hl1 HR1.out; clear hl0 hl1 HR0 HR1; have hm0 := qa0 R0; have hm1 := qa0 R1; have HR0 := hid R0; have HR1 := hid R1; have HW3 := hid W3; have HB3 := hid (HB2.out.trans (b3.mono HB2.out.size)); have hz3 := b3.size; have hbl := qa0 R2; have HLO3 := hid (show lo ≤ w3.heap.size by have := HLO.out; omega); have HNE := hid (show w.heap.size < w2.heap.size ∧ w.heap.size + 1 < w2.heap.size by have := HLO.out; omega); generalize w2.heap.size = b at *; clear hw3 R2 b3 W3 R0 R1 HST HB2 hz3; go_wp2_with fail; refine (ql8 w3).mono ?_; rintro e w4 ⟨rfl, hb4⟩; have HB4 := hid hb4; have HAL := hid (all_oneCell_toArray qla); clear hb4; go_upto_region 3 with (refine wpList_store_mid rfl 283 (.tmp 8) (.tmp 15) rfl w4.heap.size 0 qft.toArray (by first | rfl | simp [Act.eval]) (by first | rfl | simp [Act.eval]) (qai ((qa2 _ _ _).trans (if_pos rfl)) rfl) qfs HAL.out ?_); generalize hw5 : World.setCells _ _ _ _ = w5; have HRG : Hid (w5.rangeAt w4.heap.size 0 qft) := hid (by rw [← hw5]; exact World.rangeAt_setCells_same _ w4.heap.size 0 qft (qai ((qa2 _ _ _).trans (if_pos rfl)) rfl)); have b5 : Below w3.heap.size w3 w5 := by rw [← hw5]; exact qae HB4.out.size _ _ _ (HB4.out.alloc HB4.out.size _)
 have hz5 : w4.heap.size < w5.heap.size := by rw [← hw5, (qam _ _ _ _).2.2.2]; simp
 have R0 := qac b5 hm0 HR0.out; have R1 := qac b5 hm1 HR1.out; clear hm0 hm1 HR0 HR1; have hl0 := qa0 R0; have hl1 := qa0 R1; have HR1 := hid R1; have HW5 := hid (HW3.out.below b5); have HB5 := hid (HB3.out.trans (b5.mono HB3.out.size)); have HLO5 := hid (show lo ≤ w5.heap.size by have := b5.size; have := HLO3.out; omega); have k0 : w5.cell? ⟨w.heap.size, 0, none⟩ = some (.int .i64 f.call.kind) := cell_of_row w5 _ 0 _ _ _ R0; have k5 : w5.cell? ⟨w.heap.size, 5, none⟩ = some (.int .i64 (k : Int)) := by rw [← HPH.out]; exact cell_of_row w5 _ 5 _ _ _ R0
 have hbl := HW5.out.box.lt; have dd1 : decide (f.call.kind < 1) = false := decide_eq_false (by omega); have dd2 : decide (3 < f.call.kind) = false := decide_eq_false (by omega); have dd3 : decide ((k : Int) < 0) = false := decide_eq_false (by omega); have dd4 : decide (7 ≤ (k : Int)) = false := decide_eq_false (by omega); generalize w4.heap.size = q at *; clear hw5 b5 HB4 HB3 R0 HW3 HLO3 R1; go_upto_region 5 with fail; go_cut [] (fun wx => ∃ M' f' d' g', R f1 d1 M' f' d' ∧ WSt g' wx lo a P M' b t 281 f' d' ∧ ExtB lo b g g' w5 wx)
 case first =>
  rcases k with _ | _ | _ | _ | _ | _ | _ | k
  · have k5' : w5.cell? ⟨w.heap.size, 5, none⟩ = some (.int .i64 0) := k5
    have kq : w5.cell? ⟨q, 0, none⟩ = some (.func (.func (ptN 0)) #[] #[]) := by have := HRG.out 0 _ rfl; rw [Nat.zero_add] at this; exact this
    have TP := hid (HHP.out g w5 b lo f1 d1 HSAME.out HW5.out HLO5.out); clear k5; go_wp2_with fail; refine TP.out.mono ?_; rintro r w6 ⟨rfl, M', f', d', hr, g', h6, e6⟩; have HR6 := hid hr; have H6 := hid h6; have HE6 := hid e6; clear hr h6 e6 TP; go_wp2_with fail; go_meet; exact ⟨M', f', d', g', HR6.out, H6.out, HE6.out⟩
  · have k5' : w5.cell? ⟨w.heap.size, 5, none⟩ = some (.int .i64 1) := k5
    have kq : w5.cell? ⟨q, 1, none⟩ = some (.func (.func (ptN 1)) #[] #[]) := by have := HRG.out 1 _ rfl; rw [Nat.zero_add] at this; exact this
    have TP := hid (HHP.out g w5 b lo f1 d1 HSAME.out HW5.out HLO5.out); clear k5; go_wp2_with fail; refine TP.out.mono ?_; rintro r w6 ⟨rfl, M', f', d', hr, g', h6, e6⟩; have HR6 := hid hr; have H6 := hid h6; have HE6 := hid e6; clear hr h6 e6 TP; go_wp2_with fail; go_meet; exact ⟨M', f', d', g', HR6.out, H6.out, HE6.out⟩
  · have k5' : w5.cell? ⟨w.heap.size, 5, none⟩ = some (.int .i64 2) := k5
    have kq : w5.cell? ⟨q, 2, none⟩ = some (.func (.func (ptN 2)) #[] #[]) := by have := HRG.out 2 _ rfl; rw [Nat.zero_add] at this; exact this
    have TP := hid (HHP.out g w5 b lo f1 d1 HSAME.out HW5.out HLO5.out); clear k5; go_wp2_with fail; refine TP.out.mono ?_; rintro r w6 ⟨rfl, M', f', d', hr, g', h6, e6⟩; have HR6 := hid hr; have H6 := hid h6; have HE6 := hid e6; clear hr h6 e6 TP; go_wp2_with fail; go_meet; exact ⟨M', f', d', g', HR6.out, H6.out, HE6.out⟩
  · have k5' : w5.cell? ⟨w.heap.size, 5, none⟩ = some (.int .i64 3) := k5
    have kq : w5.cell? ⟨q, 3, none⟩ = some (.func (.func (ptN 3)) #[] #[]) := by have := HRG.out 3 _ rfl; rw [Nat.zero_add] at this; exact this
    have TP := hid (HHP.out g w5 b lo f1 d1 HSAME.out HW5.out HLO5.out); clear k5; go_wp2_with fail; refine TP.out.mono ?_; rintro r w6 ⟨rfl, M', f', d', hr, g', h6, e6⟩; have HR6 := hid hr; have H6 := hid h6; have HE6 := hid e6; clear hr h6 e6 TP; go_wp2_with fail; go_meet; exact ⟨M', f', d', g', HR6.out, H6.out, HE6.out⟩
  · have k5' : w5.cell? ⟨w.heap.size, 5, none⟩ = some (.int .i64 4) := k5
    have kq : w5.cell? ⟨q, 4, none⟩ = some (.func (.func (ptN 4)) #[] #[]) := by have := HRG.out 4 _ rfl; rw [Nat.zero_add] at this; exact this
    have TP := hid (HHP.out g w5 b lo f1 d1 HSAME.out HW5.out HLO5.out); clear k5; go_wp2_with fail; refine TP.out.mono ?_; rintro r w6 ⟨rfl, M', f', d', hr, g', h6, e6⟩; have HR6 := hid hr; have H6 := hid h6; have HE6 := hid e6; clear hr h6 e6 TP; go_wp2_with fail; go_meet; exact ⟨M', f', d', g', HR6.out, H6.out, HE6.out⟩
  · have k5' : w5.cell? ⟨w.heap.size, 5, none⟩ = some (.int .i64 5) := k5
    have kq : w5.cell? ⟨q, 5, none⟩ = some (.func (.func (ptN 5)) #[] #[]) := by have := HRG.out 5 _ rfl; rw [Nat.zero_add] at this; exact this
    have TP := hid (HHP.out g w5 b lo f1 d1 HSAME.out HW5.out HLO5.out); clear k5; go_wp2_with fail; refine TP.out.mono ?_; rintro r w6 ⟨rfl, M', f', d', hr, g', h6, e6⟩; have HR6 := hid hr; have H6 := hid h6; have HE6 := hid e6; clear hr h6 e6 TP; go_wp2_with fail; go_meet; exact ⟨M', f', d', g', HR6.out, H6.out, HE6.out⟩
  · have k5' : w5.cell? ⟨w.heap.size, 5, none⟩ = some (.int .i64 6) := k5
    have kq : w5.cell? ⟨q, 6, none⟩ = some (.func (.func (ptN 6)) #[] #[]) := by have := HRG.out 6 _ rfl; rw [Nat.zero_add] at this; exact this
    have TP := hid (HHP.out g w5 b lo f1 d1 HSAME.out HW5.out HLO5.out); clear k5; go_wp2_with fail; refine TP.out.mono ?_; rintro r w6 ⟨rfl, M', f', d', hr, g', h6, e6⟩; have HR6 := hid hr; have H6 := hid h6; have HE6 := hid e6; clear hr h6 e6 TP; go_wp2_with fail; go_meet; exact ⟨M', f', d', g', HR6.out, H6.out, HE6.out⟩
  · omega
 obtain ⟨M', f', d', g', hr, h6, e6⟩ := hcut; obtain ⟨w6, hw6⟩ : ∃ x, x = wc := ⟨_, rfl⟩; subst hw6; have hb6 := e6.only.size; have hr1 : w6.heap[w.heap.size + 1]? = w5.heap[w.heap.size + 1]? := e6.only.block _ hl1 (by have := H.out.far (w.heap.size + 1) (by omega); have := HLO.out; have := HNE.out; omega); have hg1 : g' (w.heap.size + 1) = 0 := (e6.old _ hl1).trans (H.out.far _ (by omega)); have R1 := hr1.trans HR1.out; have TH := hid (qai R1 HC.out); have HRA := hid h6.box.range; have HALF := hid (all_oneCell_toArray f'.enc_one); obtain ⟨hcall, hdgr⟩ := HHR.out _ _ _ _ _ hr; have F6 : FrAt (fun x => g' x = 0 ∧ w.heap.size + 2 ≤ x) w6 f' d' := qjh h6 _ (by have := HLO.out; omega) (by rw [hcall, hdgr]; exact HGL.out); obtain ⟨w7, hw7⟩ : ∃ w7, w7 = w6.setCells (w.heap.size + 1) 0 f'.enc.toArray.toList := ⟨_, rfl⟩; have HW7 := hid hw7; have HRG7 : Hid (w7.rangeAt (w.heap.size + 1) 0 f'.enc) := hid (by rw [hw7]; exact World.rangeAt_setCells_same w6 (w.heap.size + 1) 0 f'.enc TH.out); have HA7 : Hid (qa6 g' w7 a P M') := hid (by rw [hw7]; exact h6.ar.sets0 hg1 0 _); have HE6 : Ext g g' w w6 := ExtB.ext (Ext.below HB5.out) e6 (by have := HNE.out; omega) (by have := HLO.out; omega); have HE7 : Hid (Ext g g' w w7) := hid (ExtB.ext (lo := w.heap.size) (b := w.heap.size + 1) HE6 (by rw [hw7]; exact ExtB.sets 0 _) (by omega) (Nat.le_refl _)); have HF7 : Hid (FrAt (fun x => g' x = 0 ∧ w.heap.size ≤ x) w7 f' d') := hid ((F6.keep (w' := w7) (by rw [hw7, (qam _ _ _ _).2.2.2]; exact Nat.le_refl _) (fun x _ hx => by rw [hw7]; exact qaa _ _ _ _ _ (by omega))).mono fun x hx => ⟨hx.1, by omega⟩); have HR6 := hid hr; clear hw7 HE6 F6 hcall hdgr R1 hr1 hg1 hr h6 e6 hb6 dd1 dd2 dd3 dd4 k0 k5 HRG; go_wp2_with (first | (refine wpList_load_mid rfl 89 (.tmp 52) rfl b 2 (by first | rfl | simp [Act.eval]) f'.enc _ HRA.out underlying89 rfl qaf ?_) | (refine wpList_store_mid rfl 89 (.tmp 6) (.tmp 53) rfl (w.heap.size + 1) 0 f'.enc.toArray (by first | rfl | simp [Act.eval]) (by first | rfl | simp [Act.eval]) TH.out qaf HALF.out ?_; rw [← HW7.out])); refine bodyPost_ret (v := f'.v) ?_ rfl ⟨f1, d1, M', f', d', g', rfl, HSAME.out, HR6.out, HA7.out, HE7.out, HF7.out⟩; exact qah results109 _ _ (w.heap.size + 1) _ _ rfl HRG7.out underlying89 rfl qaf
end
end
section
open Go.RowKit
section
variable {g : Own8} {w : World} {lo a b t : Nat} {P : qag} {M : qa4} {ty : TypeId} {f : qa5} {d : FrD}
theorem qkz (h : WSt g w lo a P M b t ty f d) : Calls prog 250 #[.pointer (some ⟨b, 0, none⟩)] w fun e w' => e = .returned (.bool (f.call.kind == 5)) ∧ w' = w := by
 have c2 := h.box.c 2 rfl; have hl := h.box.lt; clear h; go_enter func250, ntmps250; go_wp2_with fail; go_ret; exact ⟨rfl, rfl⟩
def qBq (M : qa4) (f : qa5) (d : FrD) (M' : qa4) (f' : qa5) (d' : FrD) : Prop := d' = d ∧ ((f.line < 0 ∧ M' = M ∧ f' = f) ∨ (¬ f.line < 0 ∧ (∃ S', qi6 M.S S' ∧ M' = { M with S := S' }) ∧ f' = { f with line := -1 }))
theorem qim (h : WSt g w lo a P M b t ty f d) : Calls prog 252 #[.pointer (some ⟨b, 0, none⟩)] w (qal lo a P b t ty (qBq M f d) g w) := by
 have H := hid h; clear h; go_enter func252, ntmps252; go_wp2_with fail; go_step3; go_wp2_with fail; go_step3; go_wp2_with fail; go_loopg [] 1 (fun gk wr => (gk = 1 ∧ wr = w) ∨ (gk = 0 ∧ ∃ M' f' g', ¬ f.line < 0 ∧ (∃ S', qi6 M.S S' ∧ M' = { M with S := S' }) ∧ f' = { f with line := -1 } ∧ WSt g' wr lo a P M' b t ty f' d ∧ ExtB lo b g g' w wr))
 case atStart => exact .inl ⟨rfl, rfl⟩
 case round =>
  rcases hrel with ⟨rfl, hwr⟩ | ⟨rfl, M', f', g', hn, hM, hf', h', e'⟩
  · rw [hwr]
    clear hwr; by_cases hln : f.line < 0
    · have hge : decide (0 ≤ f.line) = false := decide_eq_false (by omega)
      have HL := hid hln; have c18 := H.out.box.c 18 rfl; have hl := H.out.box.lt; clear hln; go_wp2_with fail; refine bodyPost_ret (v := .tuple #[]) (by simp [results, results252]) rfl ⟨rfl, M, f, d, ⟨rfl, .inl ⟨HL.out, rfl, rfl⟩⟩, g, H.out, ExtB.refl _ _ _ _⟩
    · have hge : decide (0 ≤ f.line) = true := decide_eq_true (by omega)
      have HL := hid hln; have c0 := H.out.c0; have c18 := H.out.box.c 18 rfl; have hl := H.out.box.lt; have TG := hid (qf9 H.out.drew); clear hln; go_upto_region 1 with fail; go_still_tail 7, (by kernel_rfl); change wpList _ _ _ _ _ (World.drew w); have HE1 : Hid (ExtB lo b g g w w.drew) := hid (ExtB.below (Below.refl _ _).drew); generalize hw1 : World.drew w = w1 at *; clear hw1 c0 hl c18; go_wp2_with fail; refine TG.out.mono ?_; rintro r w2 ⟨rfl, S', hS, g2, h2, e2⟩; have HS := hid hS; have H2 := hid h2; have HE2 := hid (HE1.out.trans e2); clear hS h2 e2 TG; go_wp2_with fail; go_roundg 0
      case measure => omega
      case rel => exact .inr ⟨rfl, _, _, g2, HL.out, ⟨S', HS.out, rfl⟩, rfl, H2.out, HE2.out⟩
  · have c18 := h'.box.c 18 rfl
    have hl := h'.box.lt; rw [hf'] at c18; have HX := hid (And.intro hn (And.intro hM (And.intro hf' (And.intro h' e')))); clear hn hM hf' h' e'; go_wp2_with fail; refine bodyPost_ret (v := .tuple #[]) (by simp [results, results252]) rfl ⟨rfl, M', f', d, ⟨rfl, .inr ⟨Int.not_lt.2 HX.out.1, HX.out.2.1, HX.out.2.2.1⟩⟩, g', HX.out.2.2.2.1, HX.out.2.2.2.2⟩
end
end
section
open Go.RowKit
section
variable {g : Own8} {w : World} {lo a b t : Nat} {P : qag} {M : qa4} {ty : TypeId} {f : qa5} {d : FrD}
theorem qmr (h : WSt g w lo a P M b t ty f d) (ht : t < M.H.length) : Calls prog 188 #[.pointer (some ⟨b, 0, none⟩)] w (qal lo a P b t ty (qmk M t f d M.H[t] (fun f => { f with phase := if f.call.kind = 5 then 1 else 3 })) g w) := by
 have H := hid h; have c0 := h.c0; have c1 := h.c1; have hl := h.box.lt; have TE := hid (qg5 h.drew ht); generalize hh0 : M.H[t] = h0 at *; clear h hh0; go_enter func188, ntmps188; go_upto_region 0 with fail; go_still_tail 11, (by kernel_rfl); change wpList _ _ _ _ _ (World.drew w); have HE1 : Hid (ExtB lo b g g w w.drew) := hid (ExtB.below (Below.refl _ _).drew); generalize hw1 : World.drew w = w1 at *; clear hw1 c0 c1 hl; go_wp2_with fail; refine TE.out.mono ?_; rintro r w2 (⟨h1, rfl, g2, W2, E2⟩ | ⟨h1, h2, rfl, g2, W2, E2⟩ | ⟨h1, h2, rfl, g2, W2, E2⟩)
 · have HW := hid W2
   have HE := hid E2; have H1 := hid h1; clear W2 E2 h1; go_wp2_with fail; exact bodyPost_ret (v := .tuple #[]) (by simp [results, results188]) rfl ⟨rfl, M, _, d, ⟨rfl, .inl ⟨H1.out, rfl, rfl⟩⟩, g2, HW.out, HE1.out.trans HE.out⟩
 · have HW := hid W2
   have HE := hid E2; have H1 := hid h1; have H2 := hid h2; clear W2 E2 h1 h2; go_wp2_with fail; exact bodyPost_ret (v := .tuple #[]) (by simp [results, results188]) rfl ⟨rfl, M, _, d, ⟨rfl, .inr (.inl ⟨H1.out, H2.out, rfl, rfl⟩)⟩, g2, HW.out, HE1.out.trans HE.out⟩
 · have HW := hid W2
   have HE := hid E2; have H1 := hid h1; have H2 := hid h2; have c7 := W2.box.c 7 rfl; have f7 := W2.box.fr 7; have hl := W2.box.lt; have HE1' := hid (HE1.out.trans HE.out); clear W2 E2 h1 h2 HE HE1 TE; go_upto_region 2 with fail; have H3 := hid (HW.out.set 7 (.int .i64 3) { f with ep := M.now, phase := 3 } rfl ⟨rfl, rfl, rfl, rfl⟩); have HE3 := hid (HE1'.out.trans (ExtB.set (lo := lo) (b := b) 7 (.int .i64 3))); generalize World.setCell w2 _ _ = w3 at *; have TD := qkz H3.out; clear c7 f7 hl HW HE1'; go_wp2_with fail; refine TD.mono ?_; rintro r w4 ⟨rfl, rfl⟩; by_cases hk : f.call.kind = 5
   · have hb : (({ f with ep := M.now, phase := 3 } : qa5).call.kind == 5) = true := by show (f.call.kind == 5) = true; rw [hk]; rfl
     rw [hb]; have HK := hid hk; have c7 := H3.out.box.c 7 rfl; have f7 := H3.out.box.fr 7; have hl := H3.out.box.lt; clear hk hb TD; go_wp2_with fail; exact bodyPost_ret (v := .tuple #[]) (by simp [results, results188]) rfl ⟨rfl, _, _, d, ⟨rfl, .inr (.inr ⟨H1.out, H2.out, rfl, by dsimp only; rw [if_pos HK.out]⟩)⟩, g2, H3.out.set 7 (.int .i64 1) { f with ep := M.now, phase := 1 } rfl ⟨rfl, rfl, rfl, rfl⟩, HE3.out.trans (ExtB.set _ _)⟩
   · have hb : (({ f with ep := M.now, phase := 3 } : qa5).call.kind == 5) = false := by show (f.call.kind == 5) = false; rw [beq_eq_false_iff_ne]; exact hk
     rw [hb]; have HK := hid hk; clear hk hb TD; go_wp2_with fail; exact bodyPost_ret (v := .tuple #[]) (by simp [results, results188]) rfl ⟨rfl, _, _, d, ⟨rfl, .inr (.inr ⟨H1.out, H2.out, rfl, by dsimp only; rw [if_neg HK.out]⟩)⟩, g2, H3.out, HE3.out⟩
theorem qmq (h : WSt g w lo a P M b t ty f d) (ht : t < M.H.length) : Calls prog 194 #[.pointer (some ⟨b, 0, none⟩)] w (VTo lo a P b t ty g w { M with H := M.H.set t 0 } { f with phase := 7 } d) := by
 have c0 := h.c0; have c1 := h.c1; have hl := h.box.lt; have TE := hid (qg4 h.drew ht); clear h; go_enter func194, ntmps194; go_upto_region 0 with fail; go_still_tail 11, (by kernel_rfl); change wpList _ _ _ _ _ (World.drew w); have HE1 : Hid (ExtB lo b g g w w.drew) := hid (ExtB.below (Below.refl _ _).drew); generalize hw1 : World.drew w = w1 at *; clear hw1 c0 c1 hl; go_wp2_with fail; refine TE.out.mono ?_; rintro r w2 ⟨rfl, hto⟩; have HTO := hid hto; clear hto; go_wp2_with fail; exact bodyPost_ret (v := .tuple #[]) (by simp [results, results194]) rfl ⟨rfl, WTo.trans HE1.out HTO.out⟩
theorem qmp (h : WSt g w lo a P M b t ty f d) (hck : f.call.key.size ≤ 1000) (hcv : f.call.val.size ≤ 1000) (n p : Nat) (hline : f.line = (n : Int)) (hpiece : f.piece = (p : Int)) (hk : ¬ qa9 f.cls = 0) (hp : p < qa9 f.cls) (hn : n + qa9 f.cls ≤ M.D.length) :
 Calls prog 192 #[.pointer (some ⟨b, 0, none⟩)] w (qal lo a P b t ty (WrR M f d n p) g w) := by
 have hs : qa9 f.cls ≤ 8 := by unfold qa9; repeat (first | split | omega)
 have H := hid h; have c0 := h.c0; have c2 := h.box.c 2 rfl; have c3 := h.box.c 3 rfl; have c4 := h.box.c 4 rfl; have c5 := h.box.c 5 rfl; have c6 := h.box.c 6 rfl; have c18 := h.box.c 18 rfl; have c19 := h.box.c 19 rfl; have c20 := h.box.c 20 rfl; rw [hline] at c18; rw [hpiece] at c20; have hl := h.box.lt; have TW := hid (qg2 (h.ar.below (Below.refl _ _).drew) f.call hck hcv n p f.cls hk hp hn); have HP := hid hpiece; obtain ⟨q, hq⟩ : ∃ q, q = p + 1 := ⟨_, rfl⟩; have hw1 : IntKind.i64.wrap ((p : Int) + 1) = (q : Int) := by rw [Go.IntWalk.i64_in _ (by omega)]; omega
 have HQ := hid hq; clear h hline hpiece hq; go_enter func192, ntmps192; go_upto_region 1 with fail; go_still_tail 20, (by kernel_rfl); change wpList _ _ _ _ _ (World.drew w); have H1 := hid H.out.drew; have HE1 : Hid (ExtB lo b g g w w.drew) := hid (ExtB.below (Below.refl _ _).drew); generalize hw1 : World.drew w = w1 at *; clear hw1 c0 c2 c3 c4 c5 c6 c18 c19 c20 hl H; go_wp2_with fail; refine TW.out.mono ?_; rintro r w2 ⟨rfl, g2, A2, E2⟩; have h2 := H1.out.ext A2 E2; have H2 := hid h2; have HE2 := hid (HE1.out.trans (.of_ext E2)); have c20 := h2.box.c 20 rfl; rw [HP.out] at c20; have f20 := h2.box.fr 20; have c7 := h2.box.c 7 rfl; have f7 := h2.box.fr 7; have hl := h2.box.lt; clear h2 A2 E2 TW H1 HE1; by_cases hlast : p + 1 = qa9 f.cls
 · have hd : decide (p + 1 = qa9 f.cls) = true := decide_eq_true hlast
   rw [hd]; have HL := hid hlast; clear hd hlast; go_wp2_with fail; refine bodyPost_ret (v := .tuple #[]) (by simp [results, results192]) rfl ⟨rfl, _, _, d, ⟨rfl, rfl, .inl ⟨HL.out, rfl⟩⟩, g2, ?_, ((HE2.out.trans (ExtB.set 20 _)).trans (ExtB.set 20 _)).trans (ExtB.set 7 _)⟩; exact ((H2.out.set 20 (.int .i64 (q : Int)) { f with piece := (q : Int) } rfl ⟨rfl, rfl, rfl, rfl⟩).set 20 (.int .i64 0) { f with piece := 0 } rfl ⟨rfl, rfl, rfl, rfl⟩).set 7 (.int .i64 5) { f with piece := 0, phase := 5 } rfl ⟨rfl, rfl, rfl, rfl⟩
 · have hd : decide (p + 1 = qa9 f.cls) = false := decide_eq_false hlast
   rw [hd]; have HL := hid hlast; clear hd hlast; go_wp2_with fail; refine bodyPost_ret (v := .tuple #[]) (by simp [results, results192]) rfl ⟨rfl, _, _, d, ⟨rfl, rfl, .inr ⟨HL.out, rfl⟩⟩, g2, ?_, HE2.out.trans (ExtB.set 20 _)⟩; have := HQ.out; subst this; exact H2.out.set 20 (.int .i64 ((p + 1 : Nat) : Int)) { f with piece := ((p + 1 : Nat) : Int) } rfl ⟨rfl, rfl, rfl, rfl⟩
end
end
section
open Go.RowKit
section
variable {g : Own8} {w : World} {lo a b t : Nat} {P : qag} {M : qa4} {ty : TypeId} {f : qa5} {d : FrD}
def TkT (M : qa4) (f : qa5) (d : FrD) (M' : qa4) (f' : qa5) (d' : FrD) : Prop := d' = d ∧ ∃ ln code, qi2 M (qbh (qcz f.call)) ln code M' ∧
 ((code ≠ 0 ∧ f' = { f with cls := qbh (qcz f.call), vl := ByteArray.empty, code := code, phase := 6 }) ∨ (code = 0 ∧ f' = { f with cls := qbh (qcz f.call), line := ln, piece := 0, phase := 4 }))
theorem qpl (h : WSt g w lo a P M b t ty f d) (hk : f.call.key.size ≤ 1000000) (hv : f.call.val.size ≤ 1000000) : Calls prog 191 #[.pointer (some ⟨b, 0, none⟩)] w (qal lo a P b t ty (TkT M f d) g w) := by
 have H := hid h; have c0 := h.c0; have c2 := h.box.c 2 rfl; have c3 := h.box.c 3 rfl; have c4 := h.box.c 4 rfl; have c5 := h.box.c 5 rfl; have c6 := h.box.c 6 rfl; have hl := h.box.lt; have HC0 := hid (And.intro c0 (And.intro c2 (And.intro c3 (And.intro c4 (And.intro c5 c6))))); have TS := hid (fun W => qhs f.call W hk hv); obtain ⟨c, hc⟩ : ∃ c, c = qbh (qcz f.call) := ⟨_, rfl⟩; have HTK : Hid (∀ W, Below w.heap.size w W → Calls prog 245 #[.pointer (some ⟨a, 0, none⟩), .int .i64 (qcz f.call)] W fun r w' => ∃ ln code M', r = .returned (.tuple #[.int .i64 ln, .int .i64 c, .int .i64 code]) ∧ qi2 M c ln code M' ∧ ATo g W w' a P M') := hid fun W hW => by rw [hc]; exact qg3 (H.out.below hW).ar _
 have HC := hid hc; clear h hc; go_enter func191, ntmps191; go_upto_region 0 with fail; go_cut [2, 3, 4] (fun v2 v3 v4 wx => ∃ ln code M' g', v2 = .int .i64 ln ∧ v3 = .int .i64 c ∧ v4 = .int .i64 code ∧ qi2 M c ln code M' ∧ WSt g' wx lo a P M' b t ty f d ∧ ExtB lo b g g' w wx)
 case first =>
  go_region_held3 (fun W => W.cell? ⟨b, 0, none⟩ = some (.pointer (some ⟨a, 0, none⟩)) ∧ W.cell? ⟨b, 2, none⟩ = some (.int .i64 f.call.kind) ∧ W.cell? ⟨b, 3, none⟩ = some (.string f.call.key) ∧ W.cell? ⟨b, 4, none⟩ = some (.string f.call.val) ∧ W.cell? ⟨b, 5, none⟩ = some (.string f.call.tx) ∧ W.cell? ⟨b, 6, none⟩ = some (.slice f.call.gA f.call.gn f.call.gc)) (first | (with_reducible exact HSK) | (with_reducible refine qp1 (W := w) ?_ hl HC0.out; (repeat (first | with_reducible exact Below.refl _ _ | with_reducible assumption | with_reducible refine Below.drew ?_ | with_reducible refine qa1 ?_ _)); done) | go_keep) (first | (go_at_call 246; refine (TS.out _).mono ?_; rintro r w1 ⟨rfl, hb1⟩; have ST1 : Below w.heap.size w w1 := (by refine Below.trans ?_ (hb1.mono ?_); exact (by with_reducible repeat (first | exact Below.refl _ _ | assumption | refine Below.drew ?_ | refine qa1 ?_ _ | refine Below.alloc ?_ (by first | omega | simp <;> omega) _ | refine Below.setCell ?_ (by first | omega | simp <;> omega) _)); (first | exact Nat.le_refl _ | (simp; done) | (simp; omega) | omega)); clear hb1) | (go_at_call 245; refine (HTK.out _ ?_).mono ?_; exact (by with_reducible repeat (first | exact Below.refl _ _ | assumption | refine Below.drew ?_ | refine qa1 ?_ _ | refine Below.alloc ?_ (by first | omega | simp <;> omega) _ | refine Below.setCell ?_ (by first | omega | simp <;> omega) _)); rintro r w2 ⟨ln, code, M', rfl, htk, g2, A2, E2⟩; have HTR := hid htk; have HW2 := hid ((H.out.below (by with_reducible repeat (first | exact Below.refl _ _ | assumption | refine Below.drew ?_ | refine qa1 ?_ _ | refine Below.alloc ?_ (by first | omega | simp <;> omega) _ | refine Below.setCell ?_ (by first | omega | simp <;> omega) _))).ext A2 E2); have HE2 := hid ((show ExtB lo b g g w _ from ExtB.below (by with_reducible repeat (first | exact Below.refl _ _ | assumption | refine Below.drew ?_ | refine qa1 ?_ _ | refine Below.alloc ?_ (by first | omega | simp <;> omega) _ | refine Below.setCell ?_ (by first | omega | simp <;> omega) _))).trans (.of_ext E2)); have HSK := (show w2.cell? ⟨b, 0, none⟩ = some (.pointer (some ⟨a, 0, none⟩)) ∧ w2.cell? ⟨b, 2, none⟩ = some (.int .i64 f.call.kind) ∧ w2.cell? ⟨b, 3, none⟩ = some (.string f.call.key) ∧ w2.cell? ⟨b, 4, none⟩ = some (.string f.call.val) ∧ w2.cell? ⟨b, 5, none⟩ = some (.string f.call.tx) ∧ w2.cell? ⟨b, 6, none⟩ = some (.slice f.call.gA f.call.gn f.call.gc) from ⟨HW2.out.c0, HW2.out.box.c 2 rfl, HW2.out.box.c 3 rfl, HW2.out.box.c 4 rfl, HW2.out.box.c 5 rfl, HW2.out.box.c 6 rfl⟩); clear htk A2 E2)); all_goals
   go_wp2_with fail; go_meet; refine ⟨ln, code, M', g2, rfl, rfl, rfl, HTR.out, ?_, ?_⟩
   · first | exact HW2.out | exact HW2.out.drew | exact HW2.out.drewN _
   · first | exact HE2.out | exact HE2.out.trans (ExtB.below (Below.refl _ _).drew) | exact HE2.out.trans (ExtB.below (qa1 (Below.refl _ _) _))
 obtain ⟨ln, code, M', g1, rfl, rfl, rfl, htr, W1, E1⟩ := hcut; obtain ⟨w1, hw1⟩ : ∃ x, x = wc := ⟨_, rfl⟩; subst hw1; have HTR := hid htr; have HW1 := hid W1; have HE1 := hid E1; have c19 := W1.box.c 19 rfl; have f19 := W1.box.fr 19; have hl1 := W1.box.lt; clear htr W1 E1 c0 c2 c3 c4 c5 c6 hl H TS HTK HC0; go_upto_region 2 with fail; have HW2 := hid (HW1.out.set 19 (.int .i64 c) { f with cls := c } rfl ⟨rfl, rfl, rfl, rfl⟩); have HE2 := hid (HE1.out.trans (ExtB.set (lo := lo) (b := b) 19 (.int .i64 c))); generalize World.setCell w1 _ _ = w2 at *; clear c19 f19 hl1 HW1 HE1; by_cases h0 : code = 0
 · subst h0
   have c18 := HW2.out.box.c 18 rfl; have c20 := HW2.out.box.c 20 rfl; have c7 := HW2.out.box.c 7 rfl; have f18 := HW2.out.box.fr 18; have f20 := HW2.out.box.fr 20; have f7 := HW2.out.box.fr 7; have hl := HW2.out.box.lt; go_wp2_with fail; refine bodyPost_ret (v := .tuple #[]) (by simp [results, results191]) rfl ⟨rfl, M', _, d, ⟨rfl, ln, 0, by rw [← HC.out]; exact HTR.out, .inr ⟨rfl, rfl⟩⟩, g1, ?_, ((HE2.out.trans (ExtB.set 18 _)).trans (ExtB.set 20 _)).trans (ExtB.set 7 _)⟩; rw [← HC.out]; exact ((HW2.out.set 18 (.int .i64 ln) { f with cls := c, line := ln } rfl ⟨rfl, rfl, rfl, rfl⟩).set 20 (.int .i64 0) { f with cls := c, line := ln, piece := 0 } rfl ⟨rfl, rfl, rfl, rfl⟩).set 7 (.int .i64 4) { f with cls := c, line := ln, piece := 0, phase := 4 } rfl ⟨rfl, rfl, rfl, rfl⟩
 · have hb : (code != 0) = true := by rw [bne_iff_ne]; exact h0
   have H0 := hid h0; have c26 := HW2.out.box.c 26 rfl; have f26 := HW2.out.box.fr 26; have hl := HW2.out.box.lt; clear h0; go_upto_region 4 with fail; generalize hw3 : World.setCell w2 _ _ = w3; have HW3 : Hid (WSt g1 w3 lo a P M' b t ty { f with cls := c, vl := ByteArray.empty } d) := hid (by rw [← hw3]; exact HW2.out.set 26 (.string ByteArray.empty) { f with cls := c, vl := ByteArray.empty } rfl ⟨rfl, rfl, rfl, rfl⟩); have HE3 : Hid (ExtB lo b g g1 w w3) := hid (by rw [← hw3]; exact HE2.out.trans (ExtB.set (lo := lo) (b := b) 26 (.string ByteArray.empty))); have c0 := HW3.out.c0; clear hw3; have TF := hid (qcb HW3.out code); have hl := HW3.out.box.lt; clear c26 f26 HW2 HE2; go_wp2_with fail; refine TF.out.mono ?_; rintro r w4 ⟨rfl, hto⟩; have HTO := hid hto; clear hto TF; go_wp2_with fail; refine bodyPost_ret (v := .tuple #[]) (by simp [results, results191]) rfl ⟨rfl, M', _, d, ⟨rfl, ln, code, by rw [← HC.out]; exact HTR.out, .inl ⟨H0.out, rfl⟩⟩, ?_⟩; rw [← HC.out]; exact WTo.trans HE3.out HTO.out
def RdT (M : qa4) (f : qa5) (d : FrD) (now : List UInt8) (pc : Nat) (M' : qa4) (f' : qa5) (d' : FrD) : Prop :=
 (M' = M ∧ ¬ pc + 1 = qa9 f.old.cls ∧ ∃ A' c', f' = { f with bA := A', bn := d.bs.length + now.length, bc := c', piece := ((pc + 1 : Nat) : Int) } ∧ d' = { d with bs := d.bs ++ now }) ∨
 (pc + 1 = qa9 f.old.cls ∧ d' = { d with bs := [] } ∧ ∃ f2 : qa5, f2 = { f with bA := none, bn := 0, bc := 0, piece := ((pc + 1 : Nat) : Int) } ∧
  (((valB (decB (d.bs ++ now)) f.old 2).2 = false ∧ ∃ f4 : qa5, ((f2.line < 0 ∧ M' = M ∧ f4 = f2) ∨ (¬ f2.line < 0 ∧ (∃ S', qi6 M.S S' ∧ M' = { M with S := S' }) ∧ f4 = { f2 with line := -1 })) ∧ f' = { f4 with code := 6, phase := 6 }) ∨
   ((valB (decB (d.bs ++ now)) f.old 2).2 = true ∧ M' = M ∧ f' = { f2 with vl := (valB (decB (d.bs ++ now)) f.old 2).1, phase := if f2.line < 0 then 3 else 5 })))
theorem qpn (h : WSt g w lo a P M b t ty f d) (ol pc : Nat) (hol : f.old.line = (ol : Int)) (hpc : f.piece = (pc : Int)) (hi : ol + pc < M.D.length) (hb : d.bs.length ≤ 900) (hlo : lo ≤ w.heap.size) :
 Calls prog 190 #[.pointer (some ⟨b, 0, none⟩)] w (qal lo a P b t ty (RdT M f d M.D[ol + pc].now pc) g w) := by
 have TR := hid (qm0 h ol pc hol hpc hi (by omega) hlo); have hnl := M.D[ol + pc].hn; generalize M.D[ol + pc].now = now at *; have c0 := h.c0; have hl := h.box.lt; have HNL := hid hnl; clear h hol hpc hi hnl; go_enter func190, ntmps190; go_wp2_with fail; refine TR.out.mono ?_; rintro r w1 ⟨A', c', rfl, g1, W1, E1⟩; have HW1 := hid W1; have HE1 := hid E1; clear W1 E1 TR c0 hl; by_cases hlast : pc + 1 = qa9 f.old.cls; rotate_left
 · have hd : decide (pc + 1 = qa9 f.old.cls) = false := decide_eq_false hlast
   rw [hd]; have HL := hid hlast; clear hd hlast; go_wp2_with fail; exact bodyPost_ret (v := .tuple #[]) (by simp [results, results190]) rfl ⟨rfl, M, _, _, (.inl ⟨rfl, HL.out, A', c', rfl, rfl⟩), g1, HW1.out, HE1.out⟩
 have hd : decide (pc + 1 = qa9 f.old.cls) = true := decide_eq_true hlast; rw [hd]; have HL := hid hlast; clear hd hlast; have TV := hid (qj5 HW1.out 2 (by show (d.bs ++ now).length ≤ 1000000; rw [List.length_append, HNL.out]; omega)); go_wp2_with fail; refine TV.out.mono ?_; rintro r w2 ⟨rfl, g2, W2, E2⟩; obtain ⟨v, hv⟩ : ∃ v, v = valB (decB (d.bs ++ now)) f.old 2 := ⟨_, rfl⟩; have HV := hid hv; rw [show valB (decB ({ d with bs := d.bs ++ now } : FrD).bs) ({ f with bA := A', bn := d.bs.length + now.length, bc := c', piece := ((pc + 1 : Nat) : Int) } : qa5).old 2 = v from hv.symm]; obtain ⟨v1, v2⟩ := v; have HW2 := hid W2; have HE2 := hid (HE1.out.trans E2); clear hv TV W2 E2; obtain ⟨f2, hf2⟩ : ∃ f2, f2 = ({ f with bA := none, bn := 0, bc := 0, piece := ((pc + 1 : Nat) : Int) } : qa5) := ⟨_, rfl⟩; have HF2 := hid hf2; have HW3 : Hid (WSt g2 w2 lo a P M b t ty f2 { d with bs := [] }) := hid (by rw [hf2]; exact HW2.out); clear hf2 HW2; cases v2 with
 | false =>
  have TK := hid (qim HW3.out); have c0 := HW3.out.c0; have hl := HW3.out.box.lt; go_wp2_with fail; refine TK.out.mono ?_; rintro r w3 ⟨rfl, M4, f4, d4, ⟨rfl, hbk⟩, g4, h4, e4⟩; have HBK := hid hbk; have HE4 := hid (HE2.out.trans e4); have TF := hid (qcb h4 6); clear hbk h4 e4 TK; go_wp2_with fail; refine TF.out.mono ?_; rintro r w5 ⟨rfl, hto⟩; have HTO := hid hto; clear hto TF; go_wp2_with fail; exact bodyPost_ret (v := .tuple #[]) (by simp [results, results190]) rfl ⟨rfl, M4, _, _, .inr ⟨HL.out, rfl, f2, HF2.out, .inl ⟨by rw [← HV.out], f4, (by rcases HBK.out with h | ⟨h1, h2⟩; exact .inl h; exact .inr ⟨Int.not_lt.2 h1, h2⟩), rfl⟩⟩, WTo.trans HE4.out HTO.out⟩
 | true =>
  have c18 := HW3.out.box.c 18 rfl; have c26 := HW3.out.box.c 26 rfl; have c7 := HW3.out.box.c 7 rfl; have f26 := HW3.out.box.fr 26; have f7 := HW3.out.box.fr 7; have hl := HW3.out.box.lt; by_cases hln : f2.line < 0
  · have hlt : decide (f2.line < 0) = true := decide_eq_true hln
    have HLN := hid hln; clear hln; go_wp2_with fail; refine bodyPost_ret (v := .tuple #[]) (by simp [results, results190]) rfl ⟨rfl, M, _, _, .inr ⟨HL.out, rfl, f2, HF2.out, .inr ⟨by rw [← HV.out], rfl, by rw [← HV.out]⟩⟩, g2, ?_, ((HE2.out.trans (ExtB.set 26 _)).trans (ExtB.set 7 _)).trans (ExtB.set 7 _)⟩; rw [if_pos HLN.out]; exact ((HW3.out.set 26 (.string v1) { f2 with vl := v1 } rfl ⟨rfl, rfl, rfl, rfl⟩).set 7 (.int .i64 5) { f2 with vl := v1, phase := 5 } rfl ⟨rfl, rfl, rfl, rfl⟩).set 7 (.int .i64 3) { f2 with vl := v1, phase := 3 } rfl ⟨rfl, rfl, rfl, rfl⟩
  · have hlt : decide (f2.line < 0) = false := decide_eq_false hln
    have HLN := hid hln; clear hln; go_wp2_with fail; refine bodyPost_ret (v := .tuple #[]) (by simp [results, results190]) rfl ⟨rfl, M, _, _, .inr ⟨HL.out, rfl, f2, HF2.out, .inr ⟨by rw [← HV.out], rfl, by rw [← HV.out]⟩⟩, g2, ?_, (HE2.out.trans (ExtB.set 26 _)).trans (ExtB.set 7 _)⟩; rw [if_neg (Int.not_lt.2 HLN.out)]; exact (HW3.out.set 26 (.string v1) { f2 with vl := v1 } rfl ⟨rfl, rfl, rfl, rfl⟩).set 7 (.int .i64 5) { f2 with vl := v1, phase := 5 } rfl ⟨rfl, rfl, rfl, rfl⟩
end
end
section
open Go.RowKit
theorem qxc (n : Nat) (h : n < 4294967296) : bits .and .u64 (n : Int) 4294967295 = (n : Int) := by
 have h1 : n &&& 4294967295 = n := by
  have := Nat.and_two_pow_sub_one_eq_mod n 32; rw [show (2 : Nat) ^ 32 - 1 = 4294967295 by decide] at this; rw [this]; omega
 have h2 := bits_and_u64_nat n 4294967295 (by omega) (by omega); rw [h1] at h2; exact h2
theorem qsc (n : Nat) (hn : n ≤ 1000000) (w : World) : Calls prog 351 #[.int .u64 1, .int .u64 (n : Int)] w fun e w' => e = .returned (.tuple #[.int .u64 0, .int .u64 (n : Int)]) ∧ w' = w := by
 have b1 : bits .and .u64 1 4294967295 = 1 := by decide
 have b0 : bits .and .u64 0 4294967295 = 0 := by decide
 have bn : bits .and .u64 (n : Int) 4294967295 = (n : Int) := qxc n (by omega); have dn : (n : Int) / 4294967296 = 0 := by omega
 have wn : IntKind.u64.wrap (n : Int) = (n : Int) := Go.IntWalk.u64_in _ (by omega); have w0 : IntKind.u64.wrap 0 = 0 := by decide
 have z0 : (0 : Int) / 4294967296 = 0 := by decide
 go_enter func351, ntmps351; go_wp2_with fail; refine bodyPost_ret (v := .tuple #[.int .u64 0, .int .u64 (n : Int)]) (by simp [results, results351]) rfl ⟨rfl, rfl⟩
theorem qz0 (n : Nat) (hn : n ≤ 1000000) (w : World) : Calls prog 313 #[.int .u64 1, .int .u64 (n : Int)] w fun e w' => e = .returned (.tuple #[.int .u64 0, .int .u64 (n : Int)]) ∧ w' = w := by
 have TM := fun W => qsc n hn W
 go_enter func313, ntmps313; go_wp2_with fail; refine (TM _).mono ?_; rintro e w1 ⟨rfl, hw1⟩; rw [hw1]; go_wp2_with fail; refine bodyPost_ret (v := .tuple #[.int .u64 0, .int .u64 (n : Int)]) (by simp [results, results313]) rfl ⟨rfl, rfl⟩
end
end Go.Proofs.YtecikkjbnkhhkaaGreat
