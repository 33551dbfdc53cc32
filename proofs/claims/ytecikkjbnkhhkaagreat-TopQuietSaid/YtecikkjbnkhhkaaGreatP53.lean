/- A part of the walk. -/
import Derived.Test.YtecikkjbnkhhkaaGreatP48
import Derived.Test.YtecikkjbnkhhkaaGreatP50
import Derived.Test.YtecikkjbnkhhkaaGreatP51
namespace Go.Proofs.YtecikkjbnkhhkaaGreat
open _root_.Go.Proofs.Tryz
section
open Go.RowKit
def qmg (L : Nat) (T : List ThrC) (D : Nat → FrD) (k : Nat) : Prop := ∀ i (h : i < T.length), T[i].busy = false ∨ (T[i].busy = true ∧ FrOK L T[i].f (D i) ∧ ∃ si : Nat, T[i].st = (si : Int) ∧ si < k)
structure QOK (M : qa4) (T : List ThrC) (D : Nat → FrD) (S : List qap) (s th : Nat) : Prop where
 ok : OkA M (3 * s) th
 now : M.now = 1 ∧ M.dur = 0
 thr : qmg M.D.length T D S.length
 sl : S.length ≤ s
def WIn (wb a : Nat) (P : qag) (c : CfgC) (s : Nat) (g : Own8) (w : World) (r : Option Nat) : Prop :=
 ∃ M T D steps sA sc S, WAt g w wb a P M c T D steps sA sc S ∧ r = qa8 sA sc ∧ QOK M T D S s c.th ∧ 0 ≤ steps ∧ steps ≤ (s : Int)
theorem qmg.set {L : Nat} {T : List ThrC} {D : Nat → FrD} {k k' t : Nat} (h : qmg L T D k) (hk : k ≤ k') (x : ThrC) (d : FrD) (hx : x.busy = false ∨ (x.busy = true ∧ FrOK L x.f d ∧ ∃ si : Nat, x.st = (si : Int) ∧ si < k')) : qmg L (T.set t x) (updD D t d) k' := by
 intro i hi; rw [List.getElem_set]; unfold updD; by_cases e : t = i
 · rw [if_pos e, if_pos e.symm]; exact hx
 · rw [if_neg e, if_neg (fun h => e h.symm)]
   rcases h i (by rw [List.length_set] at hi; exact hi) with h0 | ⟨h1, h2, si, h3, h4⟩
   · exact .inl h0
   · exact .inr ⟨h1, h2, si, h3, by omega⟩
theorem qmg.more {L : Nat} {T : List ThrC} {D : Nat → FrD} {k k' : Nat} (h : qmg L T D k) (hk : k ≤ k') : qmg L T D k' := fun i hi => by
 rcases h i hi with h0 | ⟨h1, h2, si, h3, h4⟩
 · exact .inl h0
 · exact .inr ⟨h1, h2, si, h3, by omega⟩
theorem QOK.more {M : qa4} {T : List ThrC} {D : Nat → FrD} {S : List qap} {s th : Nat} (h : QOK M T D S s th) : QOK M T D S (s + 1) th := ⟨h.ok.mono (by omega), h.now, h.thr, by have := h.sl; omega⟩
theorem FrOK.begin {L : Nat} {cl : qa7} {G gs : List qa7} {w : World} {lo c2 : Nat} {A2 : Option Addr} (h : qd2 w lo cl G) (h8 : ¬ cl.kind = 8) (hs : Sims gs G) : FrOK L (qgk cl A2 cl.gn c2) ⟨gs, [], [], []⟩ := by
 have hl := hs.1; have hg := h.gr.1; refine ⟨⟨by show (0 : Int) ≤ 0; decide, by show (0 : Int) < 7; decide⟩, ?_, h.sm, ⟨by show gs.length ≤ 3; omega, ?_, h.gr.2.2.sims hs⟩, ?_, ?_, ?_, ?_, ?_, ?_, Nat.zero_le _, Nat.zero_le _, Nat.zero_le _⟩
 · show cl.kind = 1 ∨ cl.kind = 2 ∨ cl.kind = 3 ∨ cl.kind = 4 ∨ cl.kind = 5 ∨ cl.kind = 7
   have := h.kd; omega
 · intro x hx
   obtain ⟨i, hi, rfl⟩ := List.getElem_of_mem hx; have hi2 : i < G.length := by rw [← hl]; exact hi
   have h2 := (hs.2 i hi hi2).1; have h3 := h.gr.2.1 G[i] (List.getElem_mem hi2); exact ⟨by rw [h2.key]; exact h3.1, by rw [h2.val]; exact h3.2⟩
 · intro hk
   have := h.g1 hk; show 1 ≤ gs.length
   omega
 · exact fun _ => ⟨fun (e : (0 : Int) = 1) => (by cases e), fun (e : (0 : Int) = 2) => (by cases e)⟩
 · exact fun _ => ⟨fun (e : (0 : Int) = 2) => (by cases e), fun (e : (0 : Int) = 1 ∨ (0 : Int) = 3 ∨ (0 : Int) = 4) => (by omega), fun (e : (0 : Int) = 5) => (by cases e)⟩
 · exact fun (e : (0 : Int) = 4) => by cases e
 · exact fun (e : (0 : Int) = 4) => by cases e
 · exact fun (e : (0 : Int) = 2) => by cases e
section
variable {g : Own8} {w : World} {wb a : Nat} {P : qag} {c : CfgC} {s : Nat} {r : Option Nat}
def qmj (wb a : Nat) (P : qag) (c : CfgC) (s : Nat) (r : Option Nat) (g : Own8) (w : World) (e : Ending) (w' : World) : Prop := ∃ code : Int, e = .returned (.int .i64 code) ∧ ∃ g' r', WIn wb a P c s g' w' r' ∧ qaz g w wb r g' w' r'
def QQ (s th : Nat) (_ : Int) (M' : qa4) (T' : List ThrC) (D' : Nat → FrD) (S' : List qap) : Prop := QOK M' T' D' S' (s + 1) th
theorem qht {steps : Int} (hst : 0 ≤ steps ∧ steps ≤ (s : Int)) {e : Ending} {w' : World} (h : qyi (QQ s c.th) wb a P c steps r g w e w') : qmj wb a P c (s + 1) r g w e w' := by
 obtain ⟨steps', h1, h2, code, rfl, g', M', T', D', sA', sc', S', hq, hw, hk⟩ := h; exact ⟨code, rfl, g', _, ⟨M', T', D', steps', sA', sc', S', hw, rfl, hq, by omega, by omega⟩, hk⟩
theorem ql4 {M : qa4} {T : List ThrC} {D : Nat → FrD} {steps : Int} {sA : Option Addr} {sc : Nat} {S : List qap} {code : Int} (h : WAt g w wb a P M c T D steps sA sc S) (q : QOK M T D S s c.th) {e : Ending} {w' : World} (he : e = .returned (.int .i64 code) ∧ Below w.heap.size w w') : qo9 (QQ s c.th) wb a P c steps (qa8 sA sc) g w e w' :=
 ⟨code, he.1, g, M, T, D, sA, sc, S, q.more, h.below he.2, qaz.below he.2⟩
theorem qtd (h : WIn wb a P c s g w r) (hs : s ≤ 1000) (hth : c.th ≤ 4) (t : Nat) (ht : t < c.th) (l : Int) (cl : qa7) (kA : Option Addr) (kn kc : Nat) {G : List qa7} {w0 : World} {lo : Nat} (hc : qd2 w0 lo cl G) (hin : qbr w w.heap.size cl G) (hgK : G = [] ∨ ∃ x off, cl.gA = some ⟨x, off, none⟩ ∧ KW g w.heap.size wb r x) (h8 : ¬ cl.kind = 8) :
 Calls prog 14 #[.pointer (some ⟨wb, 0, none⟩), .agg (evL 1 (t : Int) l cl kA kn kc).toArray] w (qmj wb a P c (s + 1) r g w) := by
 obtain ⟨M, T, D, steps, sA, sc, S, hw, rfl, q, h0, h1⟩ := h; have hT := hw.bx.len; have htT : t < T.length := by omega
 have hsl := q.sl; have hg3 := hc.gr.1; refine (qh1 hw ⟨by omega, h0⟩ (κ := 1) (m := 0) rfl (.inl rfl) fun W hW => ?_).mono fun _ _ => qht ⟨h0, h1⟩
 have hwW := hw.below hW; have hz := hW.size; rcases Bool.eq_false_or_eq_true T[t].busy with hb | hb
 · exact (qpk hwW hth ht htT _ _ _ _ _ _ hb).mono fun _ _ => ql4 hwW q
 · refine (qil hwW hth ht htT ((hin.below hW).more hz) (by omega) hc.gr.2.2 (hgK.imp id fun ⟨x, off, hA, hx⟩ => ⟨x, off, hA, by have := hx.1; omega, hx.2⟩) hb (by omega) ⟨by omega, h0⟩).mono ?_
   rintro e w2 ⟨rfl, A2, c2, gs, x, A', c', hsm, hw2, hk2⟩; refine ⟨0, rfl, g, M, _, _, A', c', _, ⟨q.ok.mono (by omega), q.now, ?_, ?_⟩, hw2, hk2⟩
   · exact q.thr.set (by rw [List.length_append]; omega) _ _ (.inr ⟨rfl, FrOK.begin hc h8 hsm, S.length, rfl, by rw [List.length_append]; exact Nat.lt_succ_self _⟩)
   · rw [List.length_append]; exact Nat.succ_le_succ hsl
theorem qtc (h : WIn wb a P c s g w r) (hs : s ≤ 1000) (hth : c.th ≤ 4) (t : Nat) (ht : t < c.th) (l : Int) (cl : qa7) (kA : Option Addr) (kn kc : Nat) :
 Calls prog 14 #[.pointer (some ⟨wb, 0, none⟩), .agg (evL 2 (t : Int) l cl kA kn kc).toArray] w (qmj wb a P c (s + 1) r g w) := by
 obtain ⟨M, T, D, steps, sA, sc, S, hw, rfl, q, h0, h1⟩ := h; have hT := hw.bx.len; have htT : t < T.length := by omega
 have hsl := q.sl; refine (qh1 hw ⟨by omega, h0⟩ (κ := 2) (m := 1) rfl (.inr (.inl rfl)) fun W hW => ?_).mono fun _ _ => qht ⟨h0, h1⟩
 have hwW := hw.below hW; have hz := hW.size; rcases q.thr t htT with hb | ⟨hb, hfr, si, hst, hsi⟩
 · exact (qpj hwW hth ht htT _ _ _ _ _ _ hb).mono fun _ _ => ql4 hwW q
 · refine (qik (R := OkR M (3 * s) c.th) hwW hth ht htT hb hst hsi (by omega) ⟨by omega, h0⟩ hfr.kind (fun X hX => ?_)).mono ?_
   · have hwX := hwW.below hX
     have hfi := (hwX.thr t htT).fin; have hn : 3 * s ≤ 40000 := by omega
     unfold qpc; split
     · rename_i h45
       exact qrj hwX.ar q.ok hn ht hfi hfr h45
     · split
       · rename_i h7
         exact qt2 hwX.ar q.ok hn ht hfi hfr h7
       · refine qs4 hwX.ar q.ok hn ht hfi hfr ?_
         have := hfr.kind; omega
   · rintro e w2 ⟨rfl, f1, d1, M', f', d', g', T', D', S', hsame, hr, hSl, hw2, hk2, hcase⟩
     refine ⟨0, rfl, g', M', T', D', sA, sc, S', ⟨hr.ok.mono (by omega), ⟨hr.now.1.trans q.now.1, hr.now.2.trans q.now.2⟩, ?_, by omega⟩, hw2, hk2⟩; rw [hr.len, hSl]; rcases hcase with ⟨h7, rfl, rfl⟩ | ⟨h7, rfl, rfl⟩
     · refine q.thr.set (Nat.le_refl _) _ _ (.inr ⟨hb, ?_, si, hst, hsi⟩)
       rcases hr.fr with e | e
       · exact absurd e h7
       · exact e
     · exact q.thr.set (Nat.le_refl _) _ _ (.inl rfl)
theorem qte (h : WIn wb a P c s g w r) (hs : s ≤ 1000) (t l : Int) (cl : qa7) (kA : Option Addr) (kn kc : Nat) :
 Calls prog 14 #[.pointer (some ⟨wb, 0, none⟩), .agg (evL 4 t l cl kA kn kc).toArray] w (qmj wb a P c (s + 1) r g w) := by
 obtain ⟨M, T, D, steps, sA, sc, S, hw, rfl, q, h0, h1⟩ := h; refine (qh1 hw ⟨by omega, h0⟩ (κ := 4) (m := 3) rfl (.inr (.inr rfl)) fun W hW => ?_).mono fun _ _ => qht ⟨h0, h1⟩
 refine (qrf (hw.below hW) _ _ _ _ _ _ _).mono fun e w2 hp => hp.mono ?_
 rintro k M' T' D' S' ⟨rfl, rfl, rfl, DD, hDD, rfl⟩; exact ⟨(q.ok.setD hDD).mono (by omega), q.now, by show qmg DD.length _ _ _; rw [hDD]; exact q.thr, by have := q.sl; omega⟩
end
end
section
open Go.RowKit
def PtR (M : qa4) (t : Nat) (f : qa5) (d : FrD) (M' : qa4) (f' : qa5) (d' : FrD) : Prop :=
 (f.phase = 0 → ∃ ht : t < M.H.length, qmk M t f d M.H[t] (fun f => { f with phase := 1 }) M' f' d') ∧
 (f.phase = 1 → FdR M f d M' f' d') ∧ (f.phase = 3 → TkR M f d M' f' d') ∧
 (f.phase = 4 → ∃ n p : Nat, f.line = (n : Int) ∧ f.piece = (p : Int) ∧ WrR M f d n p M' f' d') ∧
 (f.phase = 5 → qu9 M f d M' f' d') ∧ (f.phase = 6 → qua M t f d M' f' d')
def qA2 (M : qa4) (n th t : Nat) (f : qa5) (d : FrD) (M' : qa4) (f' : qa5) (d' : FrD) : Prop := OkR M n th f d M' f' d' ∧ PtR M t f d M' f' d'
section
variable {g : Own8} {w : World} {lo a b t n th : Nat} {P : qag} {M : qa4} {ty : TypeId} {f : qa5} {d : FrD}
theorem ql9 (hok : OkA M n th) (hn : n ≤ 40000) (ht : t < th) (h : FrOK M.D.length f d) (hk : f.call.kind = 1 ∨ f.call.kind = 2 ∨ f.call.kind = 3) (k : Nat) (hk7 : k < 7) (hph : f.phase = (k : Int)) (hw : WSt g w lo a P M b t ty f d) (hlo : lo ≤ w.heap.size) :
 Calls prog (ptN k) #[.pointer (some ⟨b, 0, none⟩)] w (qal lo a P b t ty (qA2 M n th t f d) g w) := by
 have hth : t < M.H.length := by rw [hok.th.1]; exact ht
 have h4 : ¬ f.call.kind = 4 := by omega
 have h7 : ¬ f.call.kind = 7 := by omega
 have hc1 := h.call.1; have hc2 := h.call.2; rcases k with _ | _ | _ | _ | _ | _ | _ | k
 · exact (qhh hw hth).mono fun _ _ => qal.mono fun _ _ _ hr => ⟨qiv hok h ⟨h4, h7⟩ hr, fun _ => ⟨hth, hr⟩, fun e => by omega, fun e => by omega, fun e => by omega, fun e => by omega, fun e => by omega⟩
 · exact (qiu hw (by omega) (qnh hok _ hn)).mono fun _ _ => qal.mono fun _ _ _ hr => ⟨qlb hok h hk hr, fun e => by omega, fun _ => hr, fun e => by omega, fun e => by omega, fun e => by omega, fun e => by omega⟩
 · obtain ⟨⟨ol, pc, e1, e2, e3, e4, e5⟩, hbs⟩ := h.rd hph
   exact (qit hw ol pc e1 e2 (by omega) (by have := h.bs; omega) hlo).mono fun _ _ => qal.mono fun _ _ _ hr => ⟨ql7 hok h hph h4 h7 e2 (qab.hn _) hr, fun e => by omega, fun e => by omega, fun e => by omega, fun e => by omega, fun e => by omega, fun e => by omega⟩
 · exact (qir hw (by omega) (by omega)).mono fun _ _ => qal.mono fun _ _ _ hr => ⟨ql6 hok h h7 hr, fun e => by omega, fun e => by omega, fun _ => hr, fun e => by omega, fun e => by omega, fun e => by omega⟩
 · obtain ⟨nn, p, e1, e2, e3, e4, e5⟩ := h.wr hph h7
   exact (qhf hw hc1 hc2 nn p e1 e2 e3 e4 e5).mono fun _ _ => qal.mono fun _ _ _ hr => ⟨qyj hok h hph h7 e2 e4 hr, fun e => by omega, fun e => by omega, fun e => by omega, fun _ => ⟨nn, p, e1, e2, hr⟩, fun e => by omega, fun e => by omega⟩
 · exact (qf2 hw hok hn ht (by omega) (by omega)).mono fun _ _ => qal.mono fun _ _ _ hr => ⟨qon hok hn ht h h4 h7 hr, fun e => by omega, fun e => by omega, fun e => by omega, fun e => by omega, fun _ => hr, fun e => by omega⟩
 · exact (qhg hw hth).mono fun _ _ hv => qal.mono (fun _ _ _ hr => ⟨qgs hok h hr, fun e => by omega, fun e => by omega, fun e => by omega, fun e => by omega, fun e => by omega, fun _ => hr⟩) (VTo.leave hv)
 · omega
theorem qn9 (h : qa6 g w a P M) (hok : OkA M n th) (hn : n ≤ 40000) (ht : t < th) (hf : qbt w w.heap.size f d.gr d.bs d.ps d.hs) (hfr : FrOK M.D.length f d) (hk : f.call.kind = 1 ∨ f.call.kind = 2 ∨ f.call.kind = 3) :
 Calls prog 109 #[.pointer (some ⟨a, 0, none⟩), .int .i64 (t : Int), f.v] w (qcy a P (qA2 M n th t) f d g w) := by
 have hp := hfr.ph; refine qis h f d hf hfr.fit (by omega) (by omega) f.phase.toNat (by omega) (by omega) (fun g1 W b lo f1 d1 hs hw hlo => ?_) (fun f1 d1 M' f' d' hr => hr.1.call); exact ql9 hok hn ht (hfr.same hs) (by rw [hs.phase.2]; exact hk) _ (by omega) (by rw [hs.phase.1]; omega) hw hlo
end
structure PutA (f : qa5) (d : FrD) : Prop where
 kind : f.call.kind = 2
 key : f.call.key = ⟨#[97]⟩
 val : f.call.val = ⟨#[49]⟩
 gr : d.gr = []
structure Em (M : qa4) : Prop where
 t : M.T = fun _ => []
 q : M.Q = []
 bag : M.bag = []
 now : M.now = 1
 id : M.id = 0
 ver : M.ver = 0
 d : M.D.length = 18
def lkA : qa3 := ⟨⟨#[97]⟩, 1, 1, 2, 0⟩
def blkA : BlkC := ⟨0, 1, 1, 1, 1, ⟨#[97]⟩, ⟨#[49]⟩⟩
def chA : ChgC := ⟨2, ⟨#[97]⟩, ⟨#[49]⟩, false, qak, 2, 0⟩
def Don (M : qa4) : Prop := M.T = updB (fun _ => []) (bucket ⟨#[97]⟩) [lkA] ∧ M.Q = [] ∧ ∃ h : 2 < M.D.length, M.D[2].now = encB blkA
noncomputable def qok : List qan := [(qd3 (-1)).put 0 0, qd3 (-1)]
def StA (k : Nat) (M : qa4) (f : qa5) (d : FrD) : Prop := PutA f d ∧ (match k with
 | 0 => Em M ∧ M.S = List.replicate 2 (qd3 (-1)) ∧ M.H = [0] ∧ f.phase = 0 ∧ f.line = -1 ∧ f.pos = ByteArray.empty ∧ f.past = false
 | 1 => Em M ∧ M.S = List.replicate 2 (qd3 (-1)) ∧ f.phase = 1 ∧ f.line = -1 ∧ f.pos = ByteArray.empty ∧ f.past = false ∧ f.ep = 1
 | 2 => Em M ∧ M.S = List.replicate 2 (qd3 (-1)) ∧ f.phase = 3 ∧ f.ep = 1 ∧ f.had = false ∧ f.old = qak
 | 3 => Em M ∧ M.S = qok ∧ f.phase = 4 ∧ f.ep = 1 ∧ f.had = false ∧ f.old = qak ∧ f.line = 2 ∧ f.cls = 0 ∧ f.piece = 0
 | 4 => Em M ∧ M.S = qok ∧ f.phase = 5 ∧ f.ep = 1 ∧ f.had = false ∧ f.old = qak ∧ f.line = 2 ∧ f.cls = 0
 | 5 => Don M ∧ f.phase = 6
 | _ => Don M ∧ f.phase = 7)
theorem qAy {c : qa7} (h1 : c.kind = 2) (h2 : c.key = ⟨#[97]⟩) (h3 : c.val = ⟨#[49]⟩) (g : List qa7) : qe9 c g = 0 := by
 have hs : qbl c g = true := by
  unfold qbl; rw [h1, h2, if_neg (by decide), if_neg (by decide +kernel), if_pos (by decide)]
 have hl : qie c g = false := by
  unfold qie qc2; rw [h1, if_neg (by decide), if_neg (by decide), if_pos rfl, h2, h3]; rfl
 unfold qe9; rw [hs, if_neg (by decide), hl, if_neg (by decide)]
theorem qol {gs : List qa7} (h : Sims gs []) : gs = [] := List.eq_nil_of_length_eq_zero h.1
theorem StA.same {k : Nat} {M : qa4} {f f1 : qa5} {d d1 : FrD} (h : StA k M f d) (hs : qdm f d f1 d1) : StA k M f1 d1 := by
 obtain ⟨y, bA, bc, pA, pc, hA, hc, he, hy⟩ := hs.eq; obtain ⟨hp, hm⟩ := h; have hg := hs.gr; rw [hp.gr] at hg; subst he; refine ⟨⟨hy.kind.trans hp.kind, hy.key.trans hp.key, hy.val.trans hp.val, qol hg⟩, ?_⟩; rcases k with _ | _ | _ | _ | _ | _ | k <;> exact hm
section
variable {M M' : qa4} {f f' : qa5} {d d' : FrD}
theorem qru (h : StA 0 M f d) (hr : PtR M 0 f d M' f' d') : StA 1 M' f' d' := by
 obtain ⟨hp, hm, hS, hH, hph, hl, hpos, hpast⟩ := h; obtain ⟨ht, rfl, (⟨hg, _⟩ | ⟨_, h0, _⟩ | ⟨_, _, rfl, rfl⟩)⟩ := hr.1 hph
 · exact absurd (qAy hp.kind hp.key hp.val _) hg
 · refine absurd ?_ h0
   simp only [hH]; rfl
 · exact ⟨⟨hp.kind, hp.key, hp.val, hp.gr⟩, ⟨hm.t, hm.q, hm.bag, hm.now, hm.id, hm.ver, hm.d⟩, hS, rfl, hl, hpos, hpast, hm.now⟩
theorem qvi (h : StA 1 M f d) (hr : PtR M 0 f d M' f' d') : StA 2 M' f' d' := by
 obtain ⟨hp, hm, hS, hph, hl, hpos, hpast, hep⟩ := h; obtain ⟨r, hn, hc⟩ := hr.2.1 hph; have hrn : r = none := by
  cases r with
  | none => rfl
  | some x => have := hn.1; rw [hm.t] at this; cases this
 subst hrn; rcases hc with ⟨y, e, _⟩ | ⟨_, hg⟩
 · cases e
 have hk : (hitF f none).call.kind = 2 := hp.kind; have hll : (hitF f none).line = -1 := hl; rcases hg with ⟨e, _⟩ | ⟨e, _⟩ | ⟨e, _⟩ | ⟨e, _⟩ | ⟨_, _, _, rfl, rfl, rfl⟩ | ⟨_, _, e, _⟩
 · omega
 · omega
 · omega
 · omega
 · exact ⟨⟨hp.kind, hp.key, hp.val, hp.gr⟩, hm, hS, rfl, hep, rfl, rfl⟩
 · omega
theorem qvg (h : StA 2 M f d) (hr : PtR M 0 f d M' f' d') : StA 3 M' f' d' := by
 obtain ⟨hp, hm, hS, hph, hep, hhad, hold⟩ := h; obtain ⟨rfl, ln, code, ht, hc⟩ := hr.2.2.1 hph; have hn : qbh (qcz f.call) = 0 := by
  unfold qcz; rw [hp.kind, hp.key, hp.val]; rfl
 rw [hn] at ht hc; have hSl : M.S.length = 2 := by rw [hS]; rfl
 have hcl : ∀ j (hj : j < M.S.length), M.S[j].cls = -1 := fun j hj => by simp only [hS, List.getElem_replicate]; rfl
 rcases ht with ⟨h0, _⟩ | ⟨_, _, _, _, h0⟩ | ⟨i, k, hi, _, hf, rfl, rfl, rfl⟩
 · cases h0
 · exact absurd (hcl 0 (by omega)) (h0 0 (by omega))
 · obtain ⟨hi', hk8, hcs⟩ := hf.1 rfl
   rcases hcs with ⟨h0, _⟩ | ⟨_, rfl, hj⟩
   · rw [hcl] at h0; cases h0
   · have hi0 : i = 0 := by
      rcases Nat.eq_zero_or_pos i with h | h
      · exact h
      · exact absurd (hcl 0 (by omega)) (hj 0 (by omega) h)
     subst hi0; rcases hc with ⟨h0, _⟩ | ⟨_, rfl⟩
     · exact absurd rfl h0
     · refine ⟨⟨hp.kind, hp.key, hp.val, hp.gr⟩, ⟨hm.t, hm.q, hm.bag, hm.now, hm.id, hm.ver, hm.d⟩, ?_, rfl, hep, hhad, hold, rfl, rfl, rfl⟩
       show M.S.set 0 (M.S[0].put 0 0) = qok
       simp only [hS]; rfl
theorem qrs (h : StA 3 M f d) (hr : PtR M 0 f d M' f' d') : StA 4 M' f' d' := by
 obtain ⟨hp, hm, hS, hph, hep, hhad, hold, hl, hc, hpc⟩ := h; obtain ⟨n, p, e1, e2, rfl, rfl, h3⟩ := hr.2.2.2.1 hph; have hp0 : p = 0 := by omega
 subst hp0; rw [hc] at h3; rcases h3 with ⟨_, rfl⟩ | ⟨h0, _⟩
 · exact ⟨⟨hp.kind, hp.key, hp.val, hp.gr⟩, ⟨hm.t, hm.q, hm.bag, hm.now, hm.id, hm.ver, (qh0 _ _ _ _ _).trans hm.d⟩, hS, rfl, hep, hhad, hold, hl, rfl⟩
 · exact absurd rfl h0
theorem qoo {l : List ChgC} {x : ChgC} (hl : l = [x]) {i : Nat} (h : i < l.length) : l[i] = x := by
 subst hl; have : i = 0 := by simp at h; exact h
 subst this; rfl
theorem pubA (hm : Em M) (hS : M.S = qok) {code : Int} {M1 : qa4} (hr : PubR M 1 [chA] code M1) : code = 0 ∧ Don M1 := by
 have hcat : catB M.T 8 = [] := by rw [hm.t]; rfl
 rcases hr with ⟨hne, rfl, hcs⟩ | ⟨rfl, _, _, _, _, _, gr, hch⟩
 · exfalso
   rcases hcs with ⟨_, h1 | ⟨i, hi, h2, h3⟩⟩ | ⟨_, h1 | ⟨i, hi, h2⟩⟩ | ⟨i, hi, h2⟩
   · refine h1 ⟨Nat.le_refl _, by decide, fun i hi => ⟨by rw [qoo rfl hi]; rfl, fun j hj => ?_⟩⟩
     have : i = 0 := by simp at hi; exact hi
     omega
   · have hx := qoo (x := chA) rfl hi
     rw [hx] at h2 h3; rcases h3 with ⟨c, ok, hof, h4⟩ | h4 | ⟨j, hj, _⟩
     · rcases h4 with rfl | h4
       · have hz := hof.2 rfl
         rw [hS] at hz; have := hz 0 0 (by decide) (by decide) (by decide) rfl rfl; exact absurd this (by decide)
       · cases ok with
         | false =>
          have hz := hof.2 rfl; rw [hS] at hz; have := hz 0 0 (by decide) (by decide) (by decide) rfl rfl; exact absurd this (by decide)
         | true =>
          obtain ⟨i', k, hi', hc, _, hs, _⟩ := hof.1 rfl; simp only [hS] at hi' hc hs; rcases i' with _ | _ | i'
          · exact h4 hc
          · exact absurd hs (Nat.not_lt_zero _)
          · exact absurd hi' (by show ¬ i' + 1 + 1 < 2; omega)
     · unfold qkv at h4
       rw [hcat, hm.q, hm.bag] at h4; cases h4
     · have : i = 0 := by simp at hi; exact hi
       omega
   · exact h1 hm.now
   · rw [qoo (x := chA) rfl hi] at h2
     unfold qby gotT at h2; rw [hm.t] at h2; cases h2
   · rw [qoo (x := chA) rfl hi] at h2
     exact h2 fun _ => ⟨by decide, by decide⟩
 · refine ⟨rfl, ?_⟩
   obtain ⟨l, hl⟩ : ∃ l, l = [chA] := ⟨_, rfl⟩; rw [← hl] at hch; cases hch with
   | nil => cases hl
   | skip h1 h2 =>
    rename_i xs x; obtain ⟨rfl, rfl⟩ : xs = [] ∧ x = chA := by
     rcases xs with _ | ⟨y, ys⟩
     · exact ⟨rfl, by simpa using hl⟩
     · simp at hl
    cases h2
   | step h1 h2 h3 h4 =>
    rename_i xs M2 gr2 n x owed' eA ec; obtain ⟨rfl, rfl⟩ : xs = [] ∧ x = chA := by
     rcases xs with _ | ⟨y, ys⟩
     · exact ⟨rfl, by simpa using hl⟩
     · simp at hl
    obtain ⟨ys, hys⟩ : ∃ ys : List ChgC, ys = [] := ⟨_, rfl⟩; rw [← hys] at h1; cases h1 with
    | skip => simp at hys
    | step => simp at hys
    | nil =>
     have hn : n = 2 := by have : (2 : Int) = (n : Int) := h3; omega
     subst hn; have hlk : qcj M chA 1 = lkA := by
      unfold qcj qda chId; rw [hm.id, hm.ver]; rfl
     have hbk : qda M chA 1 = blkA := by
      unfold qda chId; rw [hm.id, hm.ver]; rfl
     have h2l : 2 < M.D.length := by rw [hm.d]; decide
     refine ⟨?_, ?_, ?_⟩
     · show chT M chA 1 = _
       unfold chT; rw [hlk, if_pos (show chA.kind = 2 from rfl), hm.t]; rfl
     · show chQ M chA 1 = []
       unfold chQ; rw [if_neg (by decide), if_neg (by decide)]; exact hm.q
     · have hD : chD M chA 1 2 = M.D.set 2 (M.D[2].over 0 ((encB blkA).take 64)) := by
        unfold chD; rw [dif_pos h2l, hbk]
       refine ⟨by show 2 < (chD M chA 1 2).length; rw [hD, List.length_set]; exact h2l, ?_⟩; show ((chD M chA 1 2)[2]'_).now = _
       simp only [hD, List.getElem_set_self]; have h64 : (encB blkA).length = 64 := by decide +kernel
       have htk : (encB blkA).take 64 = encB blkA := List.take_of_length_le (by rw [h64]; exact Nat.le_refl _); rw [htk]; unfold qab.over; rw [dif_pos (by rw [h64]; decide)]; exact qle (by rw [h64, M.D[2].hn])
theorem qym (h : StA 4 M f d) (hr : PtR M 0 f d M' f' d') : StA 5 M' f' d' := by
 obtain ⟨hp, hm, hS, hph, hep, hhad, hold, hl, hc⟩ := h; obtain ⟨rfl, code, M1, hpub, h3⟩ := hr.2.2.2.2.1 hph; have hch : chF f = chA := by
  unfold chF; rw [hp.kind, hp.key, hp.val, hhad, hold, hl, hc]; rfl
 rw [hch, hep] at hpub; obtain ⟨rfl, hd⟩ := pubA hm hS hpub; rcases h3 with ⟨_, rfl, rfl⟩ | ⟨e, _⟩ | ⟨e, _⟩
 · exact ⟨⟨hp.kind, hp.key, hp.val, hp.gr⟩, hd, rfl⟩
 · cases e
 · exact absurd rfl e
theorem qrt (h : StA 5 M f d) (hr : PtR M 0 f d M' f' d') : StA 6 M' f' d' := by
 obtain ⟨hp, hd, hph⟩ := h; obtain ⟨rfl, rfl, rfl⟩ := hr.2.2.2.2.2 hph; exact ⟨⟨hp.kind, hp.key, hp.val, hp.gr⟩, hd, rfl⟩
theorem qvh {k : Nat} (hk : k < 6) (h : StA k M f d) (hr : PtR M 0 f d M' f' d') : StA (k + 1) M' f' d' := by
 rcases k with _ | _ | _ | _ | _ | _ | k
 · exact qru h hr
 · exact qvi h hr
 · exact qvg h hr
 · exact qrs h hr
 · exact qym h hr
 · exact qrt h hr
 · omega
end
end
section
open Go.RowKit
theorem qj4 (n : Nat) : (formed n).length = n := by
 unfold formed; simp only [List.length_map, List.length_set, List.length_replicate]
theorem qsa {n th : Nat} (h : 18 ≤ n) : OkA (newM n th) 0 th := by
 refine ⟨⟨Nat.le_refl _, Nat.le_refl _, Nat.le_refl _, Nat.le_refl _, Nat.le_refl _, Nat.zero_le _⟩, List.Pairwise.nil, Nat.le_refl _, Nat.le_refl _, ?_, fun i _ x hx => ?_, fun x hx => ?_, ?_, ?_⟩
 · show 2 + 8 * (List.replicate ((n - 2) / 8) (qd3 (-1))).length ≤ (formed n).length
   rw [List.length_replicate, qj4]; omega
 · cases hx
 · cases hx
 · exact List.length_replicate
 · exact List.length_replicate
theorem qrn : ∀ i (h : i < (List.replicate 4 thr0).length), (List.replicate 4 thr0)[i].busy = false := fun i h => by
 rw [List.getElem_replicate]
 rfl
theorem qy1 {n th : Nat} (h : 18 ≤ n) : QOK (newM n th) (List.replicate 4 thr0) (fun _ => d0) [] 0 th :=
 ⟨qsa h, ⟨rfl, rfl⟩, fun i hi => .inl (qrn i hi), Nat.le_refl _⟩
structure AwIn (k : Nat) (M : qa4) (T : List ThrC) (D : Nat → FrD) : Prop where
 oth : ∀ i (h : i < T.length), i ≠ 0 → T[i].busy = false
 cur : k < 6 → ∃ h : 0 < T.length, T[0].busy = true ∧ StA k M T[0].f (D 0)
 fin : ¬ k < 6 → (∀ i (h : i < T.length), T[i].busy = false) ∧ Don M
def AwAt (k wb a : Nat) (P : qag) (c : CfgC) (g : Own8) (w : World) (r : Option Nat) : Prop :=
 ∃ M T D steps sA sc S, WAt g w wb a P M c T D steps sA sc S ∧ r = qa8 sA sc ∧ QOK M T D S (k + 1) c.th ∧ AwIn k M T D ∧ 0 ≤ steps ∧ steps ≤ ((k + 1 : Nat) : Int)
def putA : qa7 := ⟨2, ⟨#[97]⟩, ⟨#[49]⟩, ByteArray.empty, none, 0, 0⟩
def qBi (k wb a : Nat) (P : qag) (c : CfgC) (r : Option Nat) (g : Own8) (w : World) (e : Ending) (w' : World) : Prop := ∃ code : Int, e = .returned (.int .i64 code) ∧ ∃ g' r', AwAt k wb a P c g' w' r' ∧ qaz g w wb r g' w' r'
def qA3 (wb a : Nat) (P : qag) (c : CfgC) (r : Option Nat) (g : Own8) (w : World) (e : Ending) (w' : World) : Prop := e = .returned (.int .i64 0) ∧ ∃ g' r', AwAt 0 wb a P c g' w' r' ∧ qaz g w wb r g' w' r'
def QA (k th : Nat) (_ : Int) (M' : qa4) (T' : List ThrC) (D' : Nat → FrD) (S' : List qap) : Prop := QOK M' T' D' S' (k + 1) th ∧ AwIn k M' T' D'
def QA0 (th : Nat) (code : Int) (M' : qa4) (T' : List ThrC) (D' : Nat → FrD) (S' : List qap) : Prop := code = 0 ∧ QOK M' T' D' S' 1 th ∧ AwIn 0 M' T' D'
theorem qn7 (w : World) : qd2 w 0 putA [] := qd2.single (by decide) (by decide) (by omega)
section
variable {g : Own8} {w : World} {wb a : Nat} {P : qag} {c : CfgC} {r : Option Nat}
theorem qB6 (hth : c.th = 1) (h : WAt g w wb a P (newM 18 1) c (List.replicate 4 thr0) (fun _ => d0) 0 none 0 []) :
 Calls prog 14 #[.pointer (some ⟨wb, 0, none⟩), .agg (evL 1 0 0 putA none 0 0).toArray] w (qA3 wb a P c none g w) := by
 refine (qh1 (Q := QA0 c.th) h ⟨by decide, by decide⟩ (κ := 1) (m := 0) rfl (.inl rfl) (t := 0) fun W hW => ?_).mono ?_
 · have hq := qy1 (n := 18) (th := 1) (by decide)
   refine (qil (t := 0) (h.below hW) (by omega) (by omega) (by decide) (qn7 W).inn (by decide) (qn7 W).gr.2.2 (.inl rfl) rfl (by decide) ⟨by decide, by decide⟩).mono ?_; rintro e w2 ⟨rfl, A2, c2, gs, x, A', c', hsm, hw2, hk2⟩; refine ⟨0, rfl, g, newM 18 1, _, _, A', c', _, ⟨rfl, ⟨?_, ⟨rfl, rfl⟩, ?_, Nat.le_refl _⟩, ?_⟩, hw2, hk2⟩
   · rw [hth]; exact (qsa (by decide)).mono (by decide)
   · exact hq.thr.set (Nat.zero_le _) _ _ (.inr ⟨rfl, FrOK.begin (qn7 W) (by decide) hsm, 0, rfl, Nat.lt_succ_self _⟩)
   · refine ⟨fun i hi h0 => ?_, fun _ => ⟨by rw [List.length_set]; exact Nat.succ_pos 3, rfl, ⟨rfl, rfl, rfl, ?_⟩, ?_⟩, fun h6 => absurd (by decide) h6⟩
     · rw [List.getElem_set_ne (fun e => h0 e.symm)]
       exact qrn i _
     · exact qol hsm
     · exact ⟨⟨rfl, rfl, rfl, rfl, rfl, rfl, qj4 18⟩, rfl, rfl, rfl, rfl, rfl, rfl⟩
 · rintro e w' ⟨steps', h1, h2, code, rfl, g', M', T', D', sA', sc', S', ⟨rfl, hq, hi⟩, hw, hk⟩
   exact ⟨rfl, g', _, ⟨M', T', D', steps', sA', sc', S', hw, rfl, hq, hi, by omega, by omega⟩, hk⟩
theorem qB5 (hth : c.th = 1) {k : Nat} (hk6 : k < 6) (h : AwAt k wb a P c g w r) :
 Calls prog 14 #[.pointer (some ⟨wb, 0, none⟩), .agg (evL 2 0 0 qig none 0 0).toArray] w (qBi (k + 1) wb a P c r g w) := by
 obtain ⟨M, T, D, steps, sA, sc, S, hw, rfl, q, hin, h0, h1⟩ := h; have hT := hw.bx.len; have hsl := q.sl; obtain ⟨htT, hb, hst⟩ := hin.cur hk6; refine (qh1 (Q := QA (k + 1) c.th) hw ⟨by omega, h0⟩ (κ := 2) (m := 1) rfl (.inr (.inl rfl)) (t := 0) fun W hW => ?_).mono ?_
 · have hwW := hw.below hW
   rcases q.thr 0 htT with hb' | ⟨_, hfr, si, hsi1, hsi⟩
   · rw [hb] at hb'; cases hb'
   have hk2 := hst.1.kind; refine (qik (t := 0) (R := qA2 M (3 * (k + 1)) c.th 0) hwW (by omega) (by omega) htT hb hsi1 hsi (by omega) ⟨by omega, h0⟩ hfr.kind (fun X hX => ?_)).mono ?_
   · have hwX := hwW.below hX
     have hfi := (hwX.thr 0 htT).fin; unfold qpc; rw [hk2, if_neg (by decide), if_neg (by decide)]; exact qn9 hwX.ar q.ok (by omega) (by omega) hfi hfr (by omega)
   · rintro e w2 ⟨rfl, f1, d1, M', f', d', g', T', D', S', hsame, ⟨hr, hp⟩, hSl, hw2, hkk, hcase⟩
     have hst' := qvh hk6 (hst.same hsame) hp; refine ⟨0, rfl, g', M', T', D', sA, sc, S', ⟨⟨hr.ok.mono (by omega), ⟨hr.now.1.trans q.now.1, hr.now.2.trans q.now.2⟩, ?_, by omega⟩, ?_⟩, hw2, hkk⟩
     · rw [hr.len, hSl]
       rcases hcase with ⟨h7, rfl, rfl⟩ | ⟨h7, rfl, rfl⟩
       · refine q.thr.set (Nat.le_refl _) _ _ (.inr ⟨hb, ?_, si, hsi1, hsi⟩)
         rcases hr.fr with e | e
         · exact absurd e h7
         · exact e
       · exact q.thr.set (Nat.le_refl _) _ _ (.inl rfl)
     · rcases hcase with ⟨h7, rfl, rfl⟩ | ⟨h7, rfl, rfl⟩
       · have h5 : k + 1 < 6 := by
          rcases Nat.lt_or_ge (k + 1) 6 with h | h
          · exact h
          · have : k = 5 := by omega
            subst this; exact absurd hst'.2.2 h7
         refine ⟨fun i hi h0 => ?_, fun _ => ⟨by rw [List.length_set]; exact htT, ?_⟩, fun h6 => absurd h5 h6⟩
         · rw [List.getElem_set_ne (fun e => h0 e.symm)]
           exact hin.oth i _ h0
         · simp only [List.getElem_set_self]
           exact ⟨hb, hst'⟩
       · have h5 : ¬ k + 1 < 6 := by
          intro h; have hp7 := hst'.2; rcases k with _ | _ | _ | _ | _ | k
          · have := hp7.2.2.1; omega
          · have := hp7.2.2.1; omega
          · have := hp7.2.2.1; omega
          · have := hp7.2.2.1; omega
          · have := hp7.2; omega
          · omega
         have hk5 : k = 5 := by omega
         subst hk5; have hall : ∀ i (hi : i < (T.set 0 thr0).length), (T.set 0 thr0)[i].busy = false := fun i hi => by
          rw [List.getElem_set]; split
          · rfl
          · rename_i h0
            exact hin.oth i _ (fun e => h0 e.symm)
         exact ⟨fun i hi _ => hall i hi, fun h => absurd h h5, fun _ => ⟨hall, hst'.2.1⟩⟩
 · rintro e w' ⟨steps', h1', h2, code, rfl, g', M', T', D', sA', sc', S', ⟨hq, hi⟩, hw', hk⟩
   exact ⟨code, rfl, g', _, ⟨M', T', D', steps', sA', sc', S', hw', rfl, hq, hi, by omega, by omega⟩, hk⟩
end
end
end Go.Proofs.YtecikkjbnkhhkaaGreat
