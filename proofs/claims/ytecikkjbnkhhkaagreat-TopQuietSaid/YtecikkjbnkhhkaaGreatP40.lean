/- A part of the walk. -/
import Derived.Test.YtecikkjbnkhhkaaGreatP39
import Derived.Test.YtecikkjbnkhhkaaGreatP34
namespace Go.Proofs.YtecikkjbnkhhkaaGreat
open _root_.Go.Proofs.Tryz
set_option maxHeartbeats 4000000
set_option maxRecDepth 100000
section
open Go.RowKit
section
variable {M M' : qa4} {n th t : Nat} {f f' : qa5} {d d' : FrD}
theorem qrl (hok : OkA M n th) (h : FrOK M.D.length f d) (hk : f.call.kind = 5) (hr : FdT M f d M' f' d') : OkR M n th f d M' f' d' := by
 rcases hr with ⟨y, hy, rfl, rfl, rfl⟩ | ⟨_, rfl, f4, (⟨_, rfl, rfl⟩ | ⟨_, ⟨S', hS, rfl⟩, rfl⟩), rfl⟩
 · have hm : y ∈ M'.Q := by
    cases hq : M'.Q with
    | nil => rw [hq] at hy; cases hy
    | cons z zs => rw [hq] at hy; cases hy; exact List.mem_cons_self
   exact .sameM hok ⟨rfl, rfl⟩ h.hs (.inr (h.two rfl rfl rfl (by omega) (by omega) ⟨qlg (hok.lq y hm), rfl⟩ (Nat.zero_le _) h.ps h.hs))
 · exact .sameM hok ⟨rfl, rfl⟩ h.hs (.inr (h.six rfl rfl rfl h.bs h.ps h.hs))
 · exact .setS hok hS.len ⟨rfl, rfl⟩ h.hs (.inr (h.six rfl rfl rfl h.bs h.ps h.hs))
theorem qrk {now : List UInt8} {pc : Nat} (hok : OkA M n th) (h : FrOK M.D.length f d) (hp2 : f.phase = 2) (hk : f.call.kind = 5) (hpc : f.piece = (pc : Int)) (hnow : now.length = 64) (hr : RdT M f d now pc M' f' d') : OkR M n th f d M' f' d' := by
 have hk4 : ¬ f.call.kind = 4 := by omega
 have hk7 : ¬ f.call.kind = 7 := by omega
 obtain ⟨⟨a, b, e1, e2, e3, e4, e5⟩, hbs⟩ := h.rd hp2; have h8 := qyn f.old.cls; rcases hr with ⟨rfl, hne, A', c', rfl, rfl⟩ | ⟨_, rfl, f2, rfl, (⟨_, f4, (⟨_, rfl, rfl⟩ | ⟨_, ⟨S', hS, rfl⟩, rfl⟩), rfl⟩ | ⟨_, rfl, rfl⟩)⟩
 · have hl : (d.bs ++ now).length = d.bs.length + 64 := by rw [List.length_append, hnow]
   refine .sameM hok ⟨rfl, rfl⟩ h.hs (.inr (h.two rfl rfl hp2 hk4 hk7 ⟨⟨a, pc + 1, e1, rfl, e3, ?_, e5⟩, ?_⟩ ?_ h.ps h.hs))
   · show pc + 1 < qa9 f.old.cls
     omega
   · show ((d.bs ++ now).length : Int) = 64 * ((pc + 1 : Nat) : Int)
     rw [hl]; omega
   · show (d.bs ++ now).length ≤ 512
     rw [hl]; omega
 · exact .sameM hok ⟨rfl, rfl⟩ h.hs (.inr (h.six rfl rfl rfl (Nat.zero_le _) h.ps h.hs))
 · exact .setS hok hS.len ⟨rfl, rfl⟩ h.hs (.inr (h.six rfl rfl rfl (Nat.zero_le _) h.ps h.hs))
 · refine .sameM hok ⟨rfl, rfl⟩ h.hs (.inr ?_)
   by_cases hl : f.line < 0
   · exact h.three rfl rfl (if_pos hl) (fun e => absurd e hk7) (Nat.zero_le _) h.ps h.hs
   · exact h.five rfl rfl (if_neg hl) (fun e => absurd e hk7) (Nat.zero_le _) h.ps h.hs
theorem FrOK.on {i : Nat} (h : FrOK M.D.length f d) (hk : f.call.kind = 7) (hi : i < d.gr.length) (hgn : f.call.gn = d.gr.length) (hc : f'.call = f.call) (hg : d'.gr = d.gr) (hps : d'.ps.length = d.gr.length) (hat : f'.at' = ((i + 1 : Nat) : Int)) (hp : f'.phase = if i + 1 = f.call.gn then 5 else 1) (hb : d'.bs.length ≤ 512) (hhs : d'.hs.length ≤ 1000) : FrOK M.D.length f' d' := by
 have hl := h.gr.1; rw [hgn] at hp; by_cases hlast : i + 1 = d.gr.length
 · rw [if_pos hlast] at hp
   exact h.five hc hg hp (fun _ => hps) hb (by omega) hhs
 · rw [if_neg hlast] at hp
   exact h.one hc hg hp (by omega) (fun _ => ⟨⟨i + 1, hat, by omega⟩, hps⟩) hb (by omega) hhs
theorem qt3 {c : qa7} {pt : qas} {i : Nat} (hok : OkA M n th) (h : FrOK M.D.length f d) (hk : f.call.kind = 7) (hp1 : f.phase = 1) (hgn : f.call.gn = d.gr.length) (hat : f.at' = (i : Int)) (hr : qBe M f d c pt i M' f' d') : OkR M n th f d M' f' d' := by
 have hl := h.gr.1; obtain ⟨⟨i', hi', hlt⟩, hps⟩ := (h.grp hk).2.1 (.inl hp1); obtain rfl : i = i' := by omega
 obtain ⟨rfl, (⟨_, rfl, y, _, _, rfl⟩ | ⟨pt', _, rfl, (⟨_, rfl⟩ | ⟨_, _, rfl⟩)⟩)⟩ := hr
 · exact .sameM hok ⟨rfl, rfl⟩ h.hs (.inr ⟨h.ph, h.kind, h.call, h.gr, h.g1, h.enq, h.grp, h.wr, h.wrg, h.rd, h.bs, h.ps, h.hs⟩)
 · exact .sameM hok ⟨rfl, rfl⟩ h.hs (.inr (h.on (i := i) hk hlt hgn rfl rfl (by simp only [List.length_set]; exact hps) rfl rfl h.bs h.hs))
 · exact .sameM hok ⟨rfl, rfl⟩ h.hs (.inr (h.three rfl rfl rfl (fun _ => ⟨⟨i, hat, hlt⟩, by simp only [List.length_set]; exact hps⟩) h.bs (by simp only [List.length_set]; omega) h.hs))
theorem qt1 {c : qa7} {pt : qas} {i : Nat} (hok : OkA M n th) (h : FrOK M.D.length f d) (hk : f.call.kind = 7) (hp3 : f.phase = 3) (hat : f.at' = (i : Int)) (hr : qBd M f d c pt i M' f' d') : OkR M n th f d M' f' d' := by
 have hl := h.gr.1; obtain ⟨⟨i', hi', hlt⟩, hps⟩ := (h.grp hk).2.1 (.inr (.inl hp3)); obtain rfl : i = i' := by omega
 obtain ⟨ln, code, M1, ht, (⟨h0, rfl, rfl, rfl⟩ | ⟨_, rfl, S', ps', hS, rfl, hpl, rfl⟩)⟩ := hr
 · obtain ⟨q1, q2, q3, q4, q5, q6⟩ := qfm hok ht
   refine .of q1 q2 ⟨q3, q4⟩ ⟨rfl, rfl⟩ h.hs (.inr (h.four rfl rfl rfl (fun e => absurd hk e) (fun _ => ⟨⟨i, hat, hlt⟩, by simp only [List.length_set]; exact hps⟩) (fun _ j hj hjl => ?_) h.bs (by simp only [List.length_set]; omega) h.hs)); have hj' : f.at' = (j : Int) := hj; obtain rfl : j = i := by omega
   have e : (d.ps.set j { pt with cls := qbh (qcz c), line := ln })[j]'hjl = { pt with cls := qbh (qcz c), line := ln } := List.getElem_set_self ..; show qdc M.D.length ((d.ps.set j { pt with cls := qbh (qcz c), line := ln })[j]'hjl).line ((d.ps.set j { pt with cls := qbh (qcz c), line := ln })[j]'hjl).cls 0
   rw [e]; exact q6 h0
 · obtain ⟨q1, q2, q3, q4, q5, q6⟩ := qfm hok ht
   exact .of (q1.setS hS) q2 ⟨q3, q4⟩ ⟨rfl, rfl⟩ h.hs (.inr (h.six rfl rfl rfl h.bs (by have := h.ps; simp only; omega) h.hs))
theorem qqb {c : qa7} {k : Int} {nn p i : Nat} (hok : OkA M n th) (h : FrOK M.D.length f d) (hk : f.call.kind = 7) (hp4 : f.phase = 4) (hgn : f.call.gn = d.gr.length) (hat : f.at' = (i : Int)) (hpc : f.piece = (p : Int)) (hi : i < d.ps.length) (hkk : k = d.ps[i].cls) (hp : p < qa9 k) (hr : qBc M f d c k nn p i M' f' d') : OkR M n th f d M' f' d' := by
 have hl := h.gr.1; obtain ⟨⟨i', hi', hlt⟩, hps⟩ := (h.grp hk).2.1 (.inr (.inr hp4)); obtain rfl : i = i' := by omega
 obtain ⟨rfl, rfl, (⟨_, rfl⟩ | ⟨hne, rfl⟩)⟩ := hr
 · exact .setD hok (qh0 _ _ _ _ _) ⟨rfl, rfl⟩ h.hs (.inr (h.on (i := i) hk hlt hgn rfl rfl hps rfl rfl h.bs h.hs))
 · refine .setD hok (qh0 _ _ _ _ _) ⟨rfl, rfl⟩ h.hs (.inr (h.four rfl rfl hp4 (fun e => absurd hk e) (fun _ => ⟨⟨i, hat, hlt⟩, hps⟩) (fun _ j hj hjl => ?_) h.bs h.ps h.hs))
   have hj' : f.at' = (j : Int) := hj; obtain rfl : j = i := by omega
   obtain ⟨a, b, e1, e2, e3, e4, e5⟩ := h.wrg hp4 hk j hat hjl; exact ⟨a, p + 1, e1, rfl, e3, by subst hkk; show p + 1 < qa9 d'.ps[j].cls; omega, e5⟩
theorem qqw (h : FrOK M.D.length f d) : ∀ x ∈ chgs d, x.key.size ≤ 1000000 := by
 intro x hx; obtain ⟨i, hi, rfl⟩ := List.getElem_of_mem hx; have hl : (chgs d).length = min d.gr.length d.ps.length := List.length_zipWith ..; rw [qki hi (by omega) (by omega)]; exact Nat.le_trans (h.gr.2.1 _ (List.getElem_mem (by omega : i < d.gr.length))).1 (by decide)
theorem qwh (hok : OkA M n th) (hn : n ≤ 40000) (ht : t < th) (h : FrOK M.D.length f d) (hk : f.call.kind = 7) (hp5 : f.phase = 5) (hr : qyd M f d M' f' d') : OkR M n th f d M' f' d' := by
 have hl := h.gr.1; have hl1 := h.g1 hk; have hps := (h.grp hk).2.2 hp5; have hpl := h.ps; have hcl : (chgs d).length ≤ 1000 := by
  have : (chgs d).length = min d.gr.length d.ps.length := List.length_zipWith ..; omega
 obtain ⟨code, M1, hp, (⟨_, S', ps', A, c, hS, rfl, hq, rfl, rfl⟩ | ⟨_, rfl, ps', hq, rfl, rfl⟩ | ⟨_, _, rfl, S', ps', hS, rfl, hq, rfl⟩)⟩ := hr; all_goals obtain ⟨q1, q2, q3, q4, q5⟩ := qs3 hok hn ht (qqw h) hp
 · have hh : ((chgs d).map hadB).length ≤ 1000 := by rw [List.length_map]; exact hcl
   exact .of3 (q1.setS hS) q2 ⟨q3, q4⟩ ⟨rfl, rfl⟩ hh (.inr (h.six rfl rfl rfl h.bs (by show ps'.length ≤ 1000; omega) hh))
 · exact .of3 q1 q2 ⟨q3, q4⟩ ⟨rfl, rfl⟩ h.hs (.inr (h.one rfl rfl rfl (by omega) (fun _ => ⟨⟨0, rfl, by omega⟩, by show ps'.length = _; omega⟩) h.bs (by show ps'.length ≤ 1000; omega) h.hs))
 · exact .of3 (q1.setS hS) q2 ⟨q3, q4⟩ ⟨rfl, rfl⟩ h.hs (.inr (h.six rfl rfl rfl h.bs (by show ps'.length ≤ 1000; omega) h.hs))
end
end
section
open Go.RowKit
theorem qtp {B : Nat → List qa3} {i : Nat} : ∀ {n : Nat}, i < n → (B i).length ≤ (catB B n).length
 | 0, h => absurd h (Nat.not_lt_zero _)
 | n + 1, h => by
  have hs : (catB B (n + 1)).length = (catB B n).length + (B n).length := (congrArg List.length (show catB B (n + 1) = catB B n ++ B n from rfl)).trans List.length_append
  rcases Nat.lt_succ_iff_lt_or_eq.1 h with h | rfl
  · have := qtp (B := B) h; omega
  · omega
section
variable {g : Own8} {w : World} {lo a b t n th : Nat} {P : qag} {M : qa4} {ty : TypeId} {f : qa5} {d : FrD}
theorem qal.mono {R R' : qa4 → qa5 → FrD → Prop} (hr : ∀ M' f' d', R M' f' d' → R' M' f' d') {e : Ending} {w' : World} (h : qal lo a P b t ty R g w e w') : qal lo a P b t ty R' g w e w' := by
 obtain ⟨h1, M', f', d', h2, h3⟩ := h; exact ⟨h1, M', f', d', hr _ _ _ h2, h3⟩
theorem VTo.leave {e : Ending} {w' : World} (h : VTo lo a P b t ty g w { M with H := M.H.set t 0 } { f with phase := 7 } d e w') : qal lo a P b t ty (qua M t f d) g w e w' := ⟨h.1, _, _, _, ⟨rfl, rfl, rfl⟩, h.2⟩
theorem qnh (hok : OkA M n th) (key : ByteArray) (hn : n ≤ 40000) : (M.T (bucket key)).length ≤ 1000000 := by
 have h1 := qtp (B := M.T) (qb6 key); have h2 := hok.few.t; omega
theorem qq3 (hok : OkA M n th) (hn : n ≤ 40000) (ht : t < th) (h : FrOK M.D.length f d) (hk : f.call.kind = 1 ∨ f.call.kind = 2 ∨ f.call.kind = 3) (k : Nat) (hk7 : k < 7) (hph : f.phase = (k : Int)) (hw : WSt g w lo a P M b t ty f d) (hlo : lo ≤ w.heap.size) :
 Calls prog (ptN k) #[.pointer (some ⟨b, 0, none⟩)] w (qal lo a P b t ty (OkR M n th f d) g w) := by
 have hth : t < M.H.length := by rw [hok.th.1]; exact ht
 have h4 : ¬ f.call.kind = 4 := by omega
 have h7 : ¬ f.call.kind = 7 := by omega
 have hc1 := h.call.1; have hc2 := h.call.2; rcases k with _ | _ | _ | _ | _ | _ | _ | k
 · exact (qhh hw hth).mono fun _ _ => qal.mono fun _ _ _ hr => qiv hok h ⟨h4, h7⟩ hr
 · exact (qiu hw (by omega) (qnh hok _ hn)).mono fun _ _ => qal.mono fun _ _ _ hr => qlb hok h hk hr
 · obtain ⟨⟨ol, pc, e1, e2, e3, e4, e5⟩, hbs⟩ := h.rd hph
   exact (qit hw ol pc e1 e2 (by omega) (by have := h.bs; omega) hlo).mono fun _ _ => qal.mono fun _ _ _ hr => ql7 hok h hph h4 h7 e2 (qab.hn _) hr
 · exact (qir hw (by omega) (by omega)).mono fun _ _ => qal.mono fun _ _ _ hr => ql6 hok h h7 hr
 · obtain ⟨nn, p, e1, e2, e3, e4, e5⟩ := h.wr hph h7
   exact (qhf hw hc1 hc2 nn p e1 e2 e3 e4 e5).mono fun _ _ => qal.mono fun _ _ _ hr => qyj hok h hph h7 e2 e4 hr
 · exact (qf2 hw hok hn ht (by omega) (by omega)).mono fun _ _ => qal.mono fun _ _ _ hr => qon hok hn ht h h4 h7 hr
 · exact (qhg hw hth).mono fun _ _ hv => qal.mono (fun _ _ _ hr => qgs hok h hr) (VTo.leave hv)
 · omega
theorem qpo (hok : OkA M n th) (hn : n ≤ 40000) (ht : t < th) (h : FrOK M.D.length f d) (hk : f.call.kind = 4 ∨ f.call.kind = 5) (k : Nat) (hk7 : k < 7) (hph : f.phase = (k : Int)) (hw : WSt g w lo a P M b t ty f d) (hlo : lo ≤ w.heap.size) :
 Calls prog (tlN k) #[.pointer (some ⟨b, 0, none⟩)] w (qal lo a P b t ty (OkR M n th f d) g w) := by
 have hth : t < M.H.length := by rw [hok.th.1]; exact ht
 have h7 : ¬ f.call.kind = 7 := by omega
 have hc1 := h.call.1; have hc2 := h.call.2; rcases k with _ | _ | _ | _ | _ | _ | _ | k
 · exact (qmr hw hth).mono fun _ _ => qal.mono fun _ _ _ hr => qpq hok h hk hr
 · have h5 : f.call.kind = 5 := by
    rcases hk with h4 | h5
    · exact absurd hph (h.enq h4).1
    · exact h5
   exact (qpp hw).mono fun _ _ => qal.mono fun _ _ _ hr => qrl hok h h5 hr
 · have h5 : f.call.kind = 5 := by
    rcases hk with h4 | h5
    · exact absurd hph (h.enq h4).2
    · exact h5
   obtain ⟨⟨ol, pc, e1, e2, e3, e4, e5⟩, hbs⟩ := h.rd hph; exact (qpn hw ol pc e1 e2 (by omega) (by have := h.bs; omega) hlo).mono fun _ _ => qal.mono fun _ _ _ hr => qrk hok h hph h5 e2 (qab.hn _) hr
 · exact (qpl hw (by omega) (by omega)).mono fun _ _ => qal.mono fun _ _ _ hr => qri hok h h7 hr
 · obtain ⟨nn, p, e1, e2, e3, e4, e5⟩ := h.wr hph h7
   exact (qmp hw hc1 hc2 nn p e1 e2 e3 e4 e5).mono fun _ _ => qal.mono fun _ _ _ hr => qyj hok h hph h7 e2 e4 hr
 · exact (qjp hw hok hn ht (by omega)).mono fun _ _ => qal.mono fun _ _ _ hr => qv9 hok hn ht h hph hk hr
 · exact (qmq hw hth).mono fun _ _ hv => qal.mono (fun _ _ _ hr => qgs hok h hr) (VTo.leave hv)
 · omega
theorem qqe (hok : OkA M n th) (hn : n ≤ 40000) (ht : t < th) (h : FrOK M.D.length f d) (hk : f.call.kind = 7) (k : Nat) (hk7 : k < 7) (hph : f.phase = (k : Int)) (hw : WSt g w lo a P M b t ty f d) (hlo : lo ≤ w.heap.size) :
 Calls prog (grN k) #[.pointer (some ⟨b, 0, none⟩)] w (qal lo a P b t ty (OkR M n th f d) g w) := by
 have hth : t < M.H.length := by rw [hok.th.1]; exact ht
 have hgl := h.gr.1; have hg1 := h.g1 hk; have hgn : f.call.gn = d.gr.length := hw.grp.1.2.1; rcases k with _ | _ | _ | _ | _ | _ | _ | k
 · exact (qno hw hth hg1 (by omega) hlo).mono fun _ _ => qal.mono fun _ _ _ hr => qqg hok h hk hr
 · obtain ⟨⟨i, hi, hlt⟩, hps⟩ := (h.grp hk).2.1 (.inl hph)
   have hcs := h.gr.2.1 d.gr[i] (List.getElem_mem hlt); exact (qqf hw i hi (by omega) hlt (by omega) (by have := hcs.1; omega) (qnh hok _ hn)).mono fun _ _ => qal.mono fun _ _ _ hr => qt3 hok h hk hph hgn hi hr
 · exact absurd hph (h.grp hk).1
 · obtain ⟨⟨i, hi, hlt⟩, hps⟩ := (h.grp hk).2.1 (.inr (.inl hph))
   have hcs := h.gr.2.1 d.gr[i] (List.getElem_mem hlt); exact (qqc hw i hi hlt (by omega) (by omega) (by omega) hcs.1 hcs.2).mono fun _ _ => qal.mono fun _ _ _ hr => qt1 hok h hk hph hi hr
 · obtain ⟨⟨i, hi, hlt⟩, hps⟩ := (h.grp hk).2.1 (.inr (.inr hph))
   have hcs := h.gr.2.1 d.gr[i] (List.getElem_mem hlt); have hpi : i < d.ps.length := by omega
   obtain ⟨nn, p, e1, e2, e3, e4, e5⟩ := h.wrg hph hk i hi hpi; exact (qnm hw i nn p hi hlt hpi (by omega) hcs.1 hcs.2 e1 e2 e3 e4 e5).mono fun _ _ => qal.mono fun _ _ _ hr => qqb hok h hk hph hgn hi e2 hpi rfl e4 hr
 · have hps := (h.grp hk).2.2 hph
   exact (qkc hw hok hn ht hps (by omega) (fun x hx => ⟨Nat.le_trans (h.gr.2.1 x hx).1 (by decide), Nat.le_trans (h.gr.2.1 x hx).2 (by decide)⟩) hlo).mono fun _ _ => qal.mono fun _ _ _ hr => qwh hok hn ht h hk hph hr
 · exact (qnn hw hth).mono fun _ _ hv => qal.mono (fun _ _ _ hr => qgs hok h hr) (VTo.leave hv)
 · omega
theorem qdm.phase {f1 : qa5} {d1 : FrD} (hs : qdm f d f1 d1) : f1.phase = f.phase ∧ f1.call.kind = f.call.kind := by
 obtain ⟨y, bA, bc, pA, pc, hA, hc, he, hy⟩ := hs.eq; exact ⟨by rw [he]; rfl, by rw [he]; exact hy.kind⟩
theorem qs4 (h : qa6 g w a P M) (hok : OkA M n th) (hn : n ≤ 40000) (ht : t < th) (hf : qbt w w.heap.size f d.gr d.bs d.ps d.hs) (hfr : FrOK M.D.length f d) (hk : f.call.kind = 1 ∨ f.call.kind = 2 ∨ f.call.kind = 3) :
 Calls prog 109 #[.pointer (some ⟨a, 0, none⟩), .int .i64 (t : Int), f.v] w (qcy a P (OkR M n th) f d g w) := by
 have hp := hfr.ph; refine qis h f d hf hfr.fit (by omega) (by omega) f.phase.toNat (by omega) (by omega) (fun g1 W b lo f1 d1 hs hw hlo => ?_) (fun f1 d1 M' f' d' hr => hr.call); exact qq3 hok hn ht (hfr.same hs) (by rw [hs.phase.2]; exact hk) _ (by omega) (by rw [hs.phase.1]; omega) hw hlo
theorem qrj (h : qa6 g w a P M) (hok : OkA M n th) (hn : n ≤ 40000) (ht : t < th) (hf : qbt w w.heap.size f d.gr d.bs d.ps d.hs) (hfr : FrOK M.D.length f d) (hk : f.call.kind = 4 ∨ f.call.kind = 5) :
 Calls prog 110 #[.pointer (some ⟨a, 0, none⟩), .int .i64 (t : Int), f.v] w (qcy a P (OkR M n th) f d g w) := by
 have hp := hfr.ph; refine qpm h f d hf hfr.fit f.phase.toNat ?_ (by omega) (by omega) (fun g1 W b lo f1 d1 hs hw hlo => ?_) (fun f1 d1 M' f' d' hr => hr.call)
 · rcases hk with h4 | h5
   · exact .inr ⟨h4, by have := (hfr.enq h4).1; omega, by have := (hfr.enq h4).2; omega⟩
   · exact .inl h5
 · exact qpo hok hn ht (hfr.same hs) (by rw [hs.phase.2]; exact hk) _ (by omega) (by rw [hs.phase.1]; omega) hw hlo
theorem qt2 (h : qa6 g w a P M) (hok : OkA M n th) (hn : n ≤ 40000) (ht : t < th) (hf : qbt w w.heap.size f d.gr d.bs d.ps d.hs) (hfr : FrOK M.D.length f d) (hk : f.call.kind = 7) :
 Calls prog 112 #[.pointer (some ⟨a, 0, none⟩), .int .i64 (t : Int), f.v] w (qcy a P (OkR M n th) f d g w) := by
 have hp := hfr.ph; have hg := hfr.grp hk; refine qqd h f d hf hfr.fit f.phase.toNat hk (by have := hg.1; omega) (by omega) (by omega) (fun hc => ?_) (fun hc => hg.2.2 (by omega)) (fun g1 W b lo f1 d1 hs hw hlo => ?_) (fun f1 d1 M' f' d' hr => hr.call)
 · obtain ⟨⟨i, hi, hlt⟩, hps⟩ := hg.2.1 (by omega)
   exact ⟨by omega, by omega, hps⟩
 · exact qqe hok hn ht (hfr.same hs) (by rw [hs.phase.2]; exact hk) _ (by omega) (by rw [hs.phase.1]; omega) hw hlo
end
end
section
open Go.RowKit
structure ThrC where
 busy : Bool
 f : qa5
 st : Int
def ThrC.enc (x : ThrC) : List Value := .bool x.busy :: (x.f.enc ++ [.int .i64 x.st])
theorem ThrC.enc_len (x : ThrC) : x.enc.length = 30 := rfl
def qig : qa7 := ⟨0, ByteArray.empty, ByteArray.empty, ByteArray.empty, none, 0, 0⟩
def qt5 : qa5 := { call := qig, phase := 0, ep := 0, pos := ByteArray.empty, past := false, level := 0, had := false, old := qak, line := 0, cls := 0, piece := 0, bA := none, bn := 0, bc := 0, at' := 0, pA := none, pn := 0, pc := 0, code := 0, found := false, vl := ByteArray.empty, hA := none, hn := 0, hc := 0, aep := 0 }
def thr0 : ThrC := ⟨false, qt5, 0⟩
structure CfgC where
 n : Nat
 th : Nat
 rest : Int
def wldA (c : CfgC) (dp a : Nat) : List Value := [.int .i64 (c.n : Int), .int .i64 (c.th : Int), .int .i64 c.rest, .pointer (some ⟨dp, 0, none⟩), .pointer (some ⟨a, 0, none⟩), .pointer none, .int .i64 0, .int .i64 c.rest]
def wldB (steps : Int) (sA : Option Addr) (sn sc : Nat) : List Value := [.int .i64 steps, .int .i64 0, .slice none 0 0, .slice sA sn sc]
def wldC (c : CfgC) (dp a : Nat) (T : List ThrC) (steps : Int) (sA : Option Addr) (sn sc : Nat) : List Value := wldA c dp a ++ (T.flatMap ThrC.enc ++ wldB steps sA sn sc)
theorem qof {c : CfgC} {dp a : Nat} {T : List ThrC} {steps : Int} {sA : Option Addr} {sn sc : Nat} (hT : T.length = 4) : (wldC c dp a T steps sA sn sc).length = 132 := by
 unfold wldC; rw [List.length_append, List.length_append, qao ThrC.enc_len, hT]; rfl
section
variable {c : CfgC} {dp a : Nat} {T : List ThrC} {steps : Int} {sA : Option Addr} {sn sc : Nat}
theorem qjl {j : Nat} (hj : j < 8) : (wldC c dp a T steps sA sn sc)[j]? = (wldA c dp a)[j]? := List.getElem?_append_left (by show j < 8; exact hj)
theorem qjk (hT : T.length = 4) {j : Nat} : (wldC c dp a T steps sA sn sc)[128 + j]? = (wldB steps sA sn sc)[j]? := by
 unfold wldC; rw [List.getElem?_append_right (by show 8 ≤ _; omega), List.getElem?_append_right (by rw [qao ThrC.enc_len, hT]; show 4 * 30 ≤ 128 + j - 8; omega), qao ThrC.enc_len, hT]; rw [show 128 + j - (wldA c dp a).length - 4 * 30 = j by show 128 + j - 8 - 4 * 30 = j; omega]
theorem qjj {t j : Nat} (ht : t < T.length) (hj : j < 30) : (wldC c dp a T steps sA sn sc)[8 + t * 30 + j]? = (T[t].enc)[j]? := by
 unfold wldC; rw [List.getElem?_append_right (by show 8 ≤ _; omega), show 8 + t * 30 + j - (wldA c dp a).length = t * 30 + j by show 8 + t * 30 + j - 8 = _; omega, List.getElem?_append_left (by rw [qao ThrC.enc_len]; omega), qb0 ThrC.enc_len T t ht j hj]
end
structure WBox (w : World) (wb : Nat) (c : CfgC) (dp a : Nat) (T : List ThrC) (steps : Int) (sA : Option Addr) (sn sc : Nat) : Prop where
 row : w.heap[wb]? = some (.cells (wldC c dp a T steps sA sn sc).toArray 94 (0, 0))
 len : T.length = 4
section
variable {w : World} {wb : Nat} {c : CfgC} {dp a : Nat} {T : List ThrC} {steps : Int} {sA : Option Addr} {sn sc : Nat}
theorem WBox.lt (h : WBox w wb c dp a T steps sA sn sc) : wb < w.heap.size := qa0 h.row
theorem WBox.fr (h : WBox w wb c dp a T steps sA sn sc) (j : Nat) : w.frozen? ⟨wb, j, none⟩ = false := frozen_of_row w wb j _ _ h.row
theorem WBox.head (h : WBox w wb c dp a T steps sA sn sc) (j : Nat) {v : Value} (hj : j < 8) (hv : (wldA c dp a)[j]? = some v) : w.cell? ⟨wb, j, none⟩ = some v :=
 (cell_of_row w wb j _ _ _ h.row).trans (by rw [List.getElem?_toArray, qjl hj]; exact hv)
theorem WBox.tail (h : WBox w wb c dp a T steps sA sn sc) (j : Nat) {v : Value} (hv : (wldB steps sA sn sc)[j]? = some v) : w.cell? ⟨wb, 128 + j, none⟩ = some v :=
 (cell_of_row w wb (128 + j) _ _ _ h.row).trans (by rw [List.getElem?_toArray, qjk h.len]; exact hv)
theorem WBox.thr (h : WBox w wb c dp a T steps sA sn sc) {t : Nat} (ht : t < T.length) (j : Nat) {v : Value} (hj : j < 30) (hv : (T[t].enc)[j]? = some v) : w.cell? ⟨wb, 8 + t * 30 + j, none⟩ = some v :=
 (cell_of_row w wb (8 + t * 30 + j) _ _ _ h.row).trans (by rw [List.getElem?_toArray, qjj ht hj]; exact hv)
theorem WBox.same {w' : World} (h : WBox w wb c dp a T steps sA sn sc) (hb : w'.heap[wb]? = w.heap[wb]?) : WBox w' wb c dp a T steps sA sn sc := ⟨hb.trans h.row, h.len⟩
theorem qdn (h : WBox w wb c dp a T steps sA sn sc) (t : Nat) (ht : t < c.th) (h4 : c.th ≤ 4) : Calls prog 80 #[.pointer (some ⟨wb, 0, none⟩), .int .i64 (t : Int)] w fun e w' => e = .returned (.tuple #[.pointer (some ⟨wb, 8 + t * 30, none⟩), .int .i64 0]) ∧ w' = w := by
 have c4 := h.head 4 (by omega) rfl; have c1 := h.head 1 (by omega) rfl; have hl := h.lt; have d1 : decide ((t : Int) < 0) = false := decide_eq_false (by omega); have d2 : decide ((c.th : Int) ≤ (t : Int)) = false := decide_eq_false (by omega); have i1 : (0 : Int) ≤ (t : Int) := by omega
 have i2 : (t : Int) < 4 := by omega
 clear h; go_enter func80, ntmps80; go_wp2_with fail; go_ret2; exact ⟨rfl, rfl⟩
end
end
section
open Go.RowKit
def qpc (κ : Int) : Nat := if κ = 4 ∨ κ = 5 then 110 else if κ = 7 then 112 else 109
theorem qb9 {Pr : Program} {ops : Array Oper} {w : World} {Q : Act → Prop} {a : Act} {op : Oper} {rest : List Oper} (hgd : op.guard = none) (ty : TypeId) (x : Operand) (ho : op.op = .load ty x) (b o : Nat) (hx : a.eval x = .pointer (some ⟨b, o, none⟩)) (cs : List Value) (d : TypeDesc) (hc : w.rangeAt b o cs)
 (hu : Pr.underlying ty = some d) (hd : d.isRow = true) (hi : (Pr.info? ty).map (·.size) = some cs.length) (h : wpStill Pr ops w Q rest (a.put op.dst (.agg cs.toArray))) : wpStill Pr ops w Q (op :: rest) a := by
 refine wpStill_step (fun K hK => ?_); have hw : Region.wanted op (yielded ops a.tmps) = true := by simp [Region.wanted, hgd]
 rw [if_pos hw]; unfold Oper.still execOp; simp only [ho, hx, Instr.loadAt, Instr.sureAddr, Sem.run_bind, Sem.run_pure, Result.andThen_ok, run_loadVar_mid w b o ty cs d hc hu hd hi]; exact ⟨rfl, hK _ h⟩
section
variable {g : Own8} {w : World} {a t : Nat} {P : qag} {M : qa4} {f : qa5} {d : FrD} {R : qa5 → FrD → qa4 → qa5 → FrD → Prop}
theorem qmw {wb : Nat} (c4 : w.cell? ⟨wb, 4, none⟩ = some (.pointer (some ⟨a, 0, none⟩))) (hwb : wb < w.heap.size) (hfar : Far g w) (hk : f.call.kind = 1 ∨ f.call.kind = 2 ∨ f.call.kind = 3 ∨ f.call.kind = 4 ∨ f.call.kind = 5 ∨ f.call.kind = 7)
 (HS : ∀ W, Below w.heap.size w W → Calls prog (qpc f.call.kind) #[.pointer (some ⟨a, 0, none⟩), .int .i64 (t : Int), f.v] W (qcy a P R f d g W)) :
 Calls prog 82 #[.pointer (some ⟨wb, 0, none⟩), .int .i64 (t : Int), f.v] w (qcy a P R f d g w) := by
 have HV := hid f.v_eq; have HHS := hid HS; have HFAR := hid hfar; rw [HV.out]; clear HS hfar; go_enter func82, ntmps82; go_upto_region 1 with fail; generalize hw1 : World.alloc _ _ = w1; have R0 : w1.heap[w.heap.size]? = some (.cells f.enc.toArray 89 (0, 0)) := by rw [← hw1]; exact (Below.heap_alloc _ _ _ (by simp)).trans ((qa2 _ _ _).trans (if_pos rfl))
 obtain ⟨cur, R1, hcur⟩ : ∃ cur, w1.heap[w.heap.size + 1]? = some (.cells cur 89 (0, 0)) ∧ cur.size = 28 := ⟨_, by rw [← hw1]; exact (qa2 _ _ _).trans (if_pos (by simp)), rfl⟩; have b1 : Below w.heap.size w w1 := by rw [← hw1]; exact ((Below.refl _ _).alloc (Nat.le_refl _) _).alloc (by simp) _
 have hl0 := qa0 R0; have hl1 := qa0 R1; have k0 : w1.cell? ⟨w.heap.size, 0, none⟩ = some (.int .i64 f.call.kind) := cell_of_row w1 _ 0 _ _ _ R0; have c4' : w1.cell? ⟨wb, 4, none⟩ = some (.pointer (some ⟨a, 0, none⟩)) := (b1.cell (p := ⟨wb, 4, none⟩) hwb).trans c4; have hwb1 : wb < w1.heap.size := by omega
 have HR1 := hid R1; have HB1 := hid b1; have HC := hid hcur; have HRG := hid (show w1.drew.rangeAt w.heap.size 0 f.enc from qb5 (w := w1.drew) R0); have HS1 := HHS.out w1.drew b1.drew; obtain ⟨κ, hκ⟩ : ∃ κ, κ = f.call.kind := ⟨_, rfl⟩; clear c4 hw1 R0 R1 b1 hcur; rcases hk with hk | hk | hk | hk | hk | hk
 all_goals
  rw [hk] at k0 HS1; clear hk
 · go_upto_region 5 with fail
   go_still_tail 6, (by kernel_rfl); refine qb9 rfl 89 (.tmp 5) rfl w.heap.size 0 (by first | rfl | simp [Act.eval]) f.enc _ HRG.out underlying89 rfl qaf ?_; repeat still_step
   refine wpStill_nil ?_; change wpList _ _ _ _ _ (World.drew w1); have HE1 := hid (Ext.below (g := g) HB1.out.drew); have HR2 := hid (show w1.drew.heap[w.heap.size + 1]? = _ from HR1.out); have hz12 : (World.drew w1).heap.size = w1.heap.size := rfl; generalize hw2 : World.drew w1 = w2 at *; have HS2 := hid HS1; clear hw2 k0 c4' hl0 HS1 hwb1; go_wp2_with fail; rw [HV.out] at HS2; refine HS2.out.mono ?_; rintro e w3 ⟨f1, d1, M', f', d', g', rfl, hs, hr, A3, E3, F3⟩; have HF := hid (And.intro hs hr); have R3 := (E3.nobody (qa0 HR2.out) (HFAR.out _ (by omega))).trans HR2.out; have HG1 := hid ((E3.old _ (qa0 HR2.out)).trans (HFAR.out _ (by omega))); have HR3 := hid R3; have TH := hid (qai R3 HC.out); have HALF := hid (all_oneCell_toArray f'.enc_one); have hz2 := HB1.out.size; obtain ⟨w4, hw4⟩ : ∃ w4, w4 = w3.setCells (w.heap.size + 1) 0 f'.enc.toArray.toList := ⟨_, rfl⟩; have HW4 := hid hw4; have HRG4 := hid (show w4.rangeAt (w.heap.size + 1) 0 f'.enc by rw [hw4]; exact World.rangeAt_setCells_same w3 (w.heap.size + 1) 0 f'.enc TH.out); have HA4 := hid (show qa6 g' w4 a P M' by rw [hw4]; exact A3.sets0 HG1.out 0 _); have HE4 := hid (ExtB.ext (lo := w.heap.size) (b := w.heap.size + 1) (HE1.out.trans E3) (show ExtB w.heap.size (w.heap.size + 1) g' g' w3 w4 by rw [hw4]; exact ExtB.sets 0 _) (by omega) (Nat.le_refl _)); have HF4 := hid ((F3.keep (w' := w4) (by rw [hw4, (qam _ _ _ _).2.2.2]; exact Nat.le_refl _) (fun x _ hx => by rw [hw4]; exact qaa _ _ _ _ _ (by have := hx.2; omega))).mono (fun x hx => (show g' x = 0 ∧ w.heap.size ≤ x from ⟨hx.1, by have := hx.2; omega⟩))); clear hw4 A3 E3 F3 R3 hs hr HS2; rw [f'.v_eq]; go_wp2_with (refine wpList_store_mid rfl 89 (.tmp 6) (.tmp 22) rfl (w.heap.size + 1) 0 f'.enc.toArray (by first | rfl | simp [Act.eval]) (by first | rfl | simp [Act.eval]) TH.out qaf HALF.out ?_; rw [← HW4.out]); refine bodyPost_ret (v := f'.v) ?_ rfl ⟨f1, d1, M', f', d', g', rfl, HF.out.1, HF.out.2, HA4.out, HE4.out, HF4.out⟩; exact qah results82 _ _ (w.heap.size + 1) _ _ rfl HRG4.out underlying89 rfl qaf
 · go_upto_region 5 with fail
   go_still_tail 6, (by kernel_rfl); refine qb9 rfl 89 (.tmp 5) rfl w.heap.size 0 (by first | rfl | simp [Act.eval]) f.enc _ HRG.out underlying89 rfl qaf ?_; repeat still_step
   refine wpStill_nil ?_; change wpList _ _ _ _ _ (World.drew w1); have HE1 := hid (Ext.below (g := g) HB1.out.drew); have HR2 := hid (show w1.drew.heap[w.heap.size + 1]? = _ from HR1.out); have hz12 : (World.drew w1).heap.size = w1.heap.size := rfl; generalize hw2 : World.drew w1 = w2 at *; have HS2 := hid HS1; clear hw2 k0 c4' hl0 HS1 hwb1; go_wp2_with fail; rw [HV.out] at HS2; refine HS2.out.mono ?_; rintro e w3 ⟨f1, d1, M', f', d', g', rfl, hs, hr, A3, E3, F3⟩; have HF := hid (And.intro hs hr); have R3 := (E3.nobody (qa0 HR2.out) (HFAR.out _ (by omega))).trans HR2.out; have HG1 := hid ((E3.old _ (qa0 HR2.out)).trans (HFAR.out _ (by omega))); have HR3 := hid R3; have TH := hid (qai R3 HC.out); have HALF := hid (all_oneCell_toArray f'.enc_one); have hz2 := HB1.out.size; obtain ⟨w4, hw4⟩ : ∃ w4, w4 = w3.setCells (w.heap.size + 1) 0 f'.enc.toArray.toList := ⟨_, rfl⟩; have HW4 := hid hw4; have HRG4 := hid (show w4.rangeAt (w.heap.size + 1) 0 f'.enc by rw [hw4]; exact World.rangeAt_setCells_same w3 (w.heap.size + 1) 0 f'.enc TH.out); have HA4 := hid (show qa6 g' w4 a P M' by rw [hw4]; exact A3.sets0 HG1.out 0 _); have HE4 := hid (ExtB.ext (lo := w.heap.size) (b := w.heap.size + 1) (HE1.out.trans E3) (show ExtB w.heap.size (w.heap.size + 1) g' g' w3 w4 by rw [hw4]; exact ExtB.sets 0 _) (by omega) (Nat.le_refl _)); have HF4 := hid ((F3.keep (w' := w4) (by rw [hw4, (qam _ _ _ _).2.2.2]; exact Nat.le_refl _) (fun x _ hx => by rw [hw4]; exact qaa _ _ _ _ _ (by have := hx.2; omega))).mono (fun x hx => (show g' x = 0 ∧ w.heap.size ≤ x from ⟨hx.1, by have := hx.2; omega⟩))); clear hw4 A3 E3 F3 R3 hs hr HS2; rw [f'.v_eq]; go_wp2_with (refine wpList_store_mid rfl 89 (.tmp 6) (.tmp 22) rfl (w.heap.size + 1) 0 f'.enc.toArray (by first | rfl | simp [Act.eval]) (by first | rfl | simp [Act.eval]) TH.out qaf HALF.out ?_; rw [← HW4.out]); refine bodyPost_ret (v := f'.v) ?_ rfl ⟨f1, d1, M', f', d', g', rfl, HF.out.1, HF.out.2, HA4.out, HE4.out, HF4.out⟩; exact qah results82 _ _ (w.heap.size + 1) _ _ rfl HRG4.out underlying89 rfl qaf
 · go_upto_region 5 with fail
   go_still_tail 6, (by kernel_rfl); refine qb9 rfl 89 (.tmp 5) rfl w.heap.size 0 (by first | rfl | simp [Act.eval]) f.enc _ HRG.out underlying89 rfl qaf ?_; repeat still_step
   refine wpStill_nil ?_; change wpList _ _ _ _ _ (World.drew w1); have HE1 := hid (Ext.below (g := g) HB1.out.drew); have HR2 := hid (show w1.drew.heap[w.heap.size + 1]? = _ from HR1.out); have hz12 : (World.drew w1).heap.size = w1.heap.size := rfl; generalize hw2 : World.drew w1 = w2 at *; have HS2 := hid HS1; clear hw2 k0 c4' hl0 HS1 hwb1; go_wp2_with fail; rw [HV.out] at HS2; refine HS2.out.mono ?_; rintro e w3 ⟨f1, d1, M', f', d', g', rfl, hs, hr, A3, E3, F3⟩; have HF := hid (And.intro hs hr); have R3 := (E3.nobody (qa0 HR2.out) (HFAR.out _ (by omega))).trans HR2.out; have HG1 := hid ((E3.old _ (qa0 HR2.out)).trans (HFAR.out _ (by omega))); have HR3 := hid R3; have TH := hid (qai R3 HC.out); have HALF := hid (all_oneCell_toArray f'.enc_one); have hz2 := HB1.out.size; obtain ⟨w4, hw4⟩ : ∃ w4, w4 = w3.setCells (w.heap.size + 1) 0 f'.enc.toArray.toList := ⟨_, rfl⟩; have HW4 := hid hw4; have HRG4 := hid (show w4.rangeAt (w.heap.size + 1) 0 f'.enc by rw [hw4]; exact World.rangeAt_setCells_same w3 (w.heap.size + 1) 0 f'.enc TH.out); have HA4 := hid (show qa6 g' w4 a P M' by rw [hw4]; exact A3.sets0 HG1.out 0 _); have HE4 := hid (ExtB.ext (lo := w.heap.size) (b := w.heap.size + 1) (HE1.out.trans E3) (show ExtB w.heap.size (w.heap.size + 1) g' g' w3 w4 by rw [hw4]; exact ExtB.sets 0 _) (by omega) (Nat.le_refl _)); have HF4 := hid ((F3.keep (w' := w4) (by rw [hw4, (qam _ _ _ _).2.2.2]; exact Nat.le_refl _) (fun x _ hx => by rw [hw4]; exact qaa _ _ _ _ _ (by have := hx.2; omega))).mono (fun x hx => (show g' x = 0 ∧ w.heap.size ≤ x from ⟨hx.1, by have := hx.2; omega⟩))); clear hw4 A3 E3 F3 R3 hs hr HS2; rw [f'.v_eq]; go_wp2_with (refine wpList_store_mid rfl 89 (.tmp 6) (.tmp 22) rfl (w.heap.size + 1) 0 f'.enc.toArray (by first | rfl | simp [Act.eval]) (by first | rfl | simp [Act.eval]) TH.out qaf HALF.out ?_; rw [← HW4.out]); refine bodyPost_ret (v := f'.v) ?_ rfl ⟨f1, d1, M', f', d', g', rfl, HF.out.1, HF.out.2, HA4.out, HE4.out, HF4.out⟩; exact qah results82 _ _ (w.heap.size + 1) _ _ rfl HRG4.out underlying89 rfl qaf
 · go_upto_region 8 with fail
   go_still_tail 6, (by kernel_rfl); refine qb9 rfl 89 (.tmp 5) rfl w.heap.size 0 (by first | rfl | simp [Act.eval]) f.enc _ HRG.out underlying89 rfl qaf ?_; repeat still_step
   refine wpStill_nil ?_; change wpList _ _ _ _ _ (World.drew w1); have HE1 := hid (Ext.below (g := g) HB1.out.drew); have HR2 := hid (show w1.drew.heap[w.heap.size + 1]? = _ from HR1.out); have hz12 : (World.drew w1).heap.size = w1.heap.size := rfl; generalize hw2 : World.drew w1 = w2 at *; have HS2 := hid HS1; clear hw2 k0 c4' hl0 HS1 hwb1; go_wp2_with fail; rw [HV.out] at HS2; refine HS2.out.mono ?_; rintro e w3 ⟨f1, d1, M', f', d', g', rfl, hs, hr, A3, E3, F3⟩; have HF := hid (And.intro hs hr); have R3 := (E3.nobody (qa0 HR2.out) (HFAR.out _ (by omega))).trans HR2.out; have HG1 := hid ((E3.old _ (qa0 HR2.out)).trans (HFAR.out _ (by omega))); have HR3 := hid R3; have TH := hid (qai R3 HC.out); have HALF := hid (all_oneCell_toArray f'.enc_one); have hz2 := HB1.out.size; obtain ⟨w4, hw4⟩ : ∃ w4, w4 = w3.setCells (w.heap.size + 1) 0 f'.enc.toArray.toList := ⟨_, rfl⟩; have HW4 := hid hw4; have HRG4 := hid (show w4.rangeAt (w.heap.size + 1) 0 f'.enc by rw [hw4]; exact World.rangeAt_setCells_same w3 (w.heap.size + 1) 0 f'.enc TH.out); have HA4 := hid (show qa6 g' w4 a P M' by rw [hw4]; exact A3.sets0 HG1.out 0 _); have HE4 := hid (ExtB.ext (lo := w.heap.size) (b := w.heap.size + 1) (HE1.out.trans E3) (show ExtB w.heap.size (w.heap.size + 1) g' g' w3 w4 by rw [hw4]; exact ExtB.sets 0 _) (by omega) (Nat.le_refl _)); have HF4 := hid ((F3.keep (w' := w4) (by rw [hw4, (qam _ _ _ _).2.2.2]; exact Nat.le_refl _) (fun x _ hx => by rw [hw4]; exact qaa _ _ _ _ _ (by have := hx.2; omega))).mono (fun x hx => (show g' x = 0 ∧ w.heap.size ≤ x from ⟨hx.1, by have := hx.2; omega⟩))); clear hw4 A3 E3 F3 R3 hs hr HS2; rw [f'.v_eq]; go_wp2_with (refine wpList_store_mid rfl 89 (.tmp 6) (.tmp 32) rfl (w.heap.size + 1) 0 f'.enc.toArray (by first | rfl | simp [Act.eval]) (by first | rfl | simp [Act.eval]) TH.out qaf HALF.out ?_; rw [← HW4.out]); refine bodyPost_ret (v := f'.v) ?_ rfl ⟨f1, d1, M', f', d', g', rfl, HF.out.1, HF.out.2, HA4.out, HE4.out, HF4.out⟩; exact qah results82 _ _ (w.heap.size + 1) _ _ rfl HRG4.out underlying89 rfl qaf
 · go_upto_region 8 with fail
   go_still_tail 6, (by kernel_rfl); refine qb9 rfl 89 (.tmp 5) rfl w.heap.size 0 (by first | rfl | simp [Act.eval]) f.enc _ HRG.out underlying89 rfl qaf ?_; repeat still_step
   refine wpStill_nil ?_; change wpList _ _ _ _ _ (World.drew w1); have HE1 := hid (Ext.below (g := g) HB1.out.drew); have HR2 := hid (show w1.drew.heap[w.heap.size + 1]? = _ from HR1.out); have hz12 : (World.drew w1).heap.size = w1.heap.size := rfl; generalize hw2 : World.drew w1 = w2 at *; have HS2 := hid HS1; clear hw2 k0 c4' hl0 HS1 hwb1; go_wp2_with fail; rw [HV.out] at HS2; refine HS2.out.mono ?_; rintro e w3 ⟨f1, d1, M', f', d', g', rfl, hs, hr, A3, E3, F3⟩; have HF := hid (And.intro hs hr); have R3 := (E3.nobody (qa0 HR2.out) (HFAR.out _ (by omega))).trans HR2.out; have HG1 := hid ((E3.old _ (qa0 HR2.out)).trans (HFAR.out _ (by omega))); have HR3 := hid R3; have TH := hid (qai R3 HC.out); have HALF := hid (all_oneCell_toArray f'.enc_one); have hz2 := HB1.out.size; obtain ⟨w4, hw4⟩ : ∃ w4, w4 = w3.setCells (w.heap.size + 1) 0 f'.enc.toArray.toList := ⟨_, rfl⟩; have HW4 := hid hw4; have HRG4 := hid (show w4.rangeAt (w.heap.size + 1) 0 f'.enc by rw [hw4]; exact World.rangeAt_setCells_same w3 (w.heap.size + 1) 0 f'.enc TH.out); have HA4 := hid (show qa6 g' w4 a P M' by rw [hw4]; exact A3.sets0 HG1.out 0 _); have HE4 := hid (ExtB.ext (lo := w.heap.size) (b := w.heap.size + 1) (HE1.out.trans E3) (show ExtB w.heap.size (w.heap.size + 1) g' g' w3 w4 by rw [hw4]; exact ExtB.sets 0 _) (by omega) (Nat.le_refl _)); have HF4 := hid ((F3.keep (w' := w4) (by rw [hw4, (qam _ _ _ _).2.2.2]; exact Nat.le_refl _) (fun x _ hx => by rw [hw4]; exact qaa _ _ _ _ _ (by have := hx.2; omega))).mono (fun x hx => (show g' x = 0 ∧ w.heap.size ≤ x from ⟨hx.1, by have := hx.2; omega⟩))); clear hw4 A3 E3 F3 R3 hs hr HS2; rw [f'.v_eq]; go_wp2_with (refine wpList_store_mid rfl 89 (.tmp 6) (.tmp 32) rfl (w.heap.size + 1) 0 f'.enc.toArray (by first | rfl | simp [Act.eval]) (by first | rfl | simp [Act.eval]) TH.out qaf HALF.out ?_; rw [← HW4.out]); refine bodyPost_ret (v := f'.v) ?_ rfl ⟨f1, d1, M', f', d', g', rfl, HF.out.1, HF.out.2, HA4.out, HE4.out, HF4.out⟩; exact qah results82 _ _ (w.heap.size + 1) _ _ rfl HRG4.out underlying89 rfl qaf
 · go_upto_region 12 with fail
   go_still_tail 6, (by kernel_rfl); refine qb9 rfl 89 (.tmp 5) rfl w.heap.size 0 (by first | rfl | simp [Act.eval]) f.enc _ HRG.out underlying89 rfl qaf ?_; repeat still_step
   refine wpStill_nil ?_; change wpList _ _ _ _ _ (World.drew w1); have HE1 := hid (Ext.below (g := g) HB1.out.drew); have HR2 := hid (show w1.drew.heap[w.heap.size + 1]? = _ from HR1.out); have hz12 : (World.drew w1).heap.size = w1.heap.size := rfl; generalize hw2 : World.drew w1 = w2 at *; have HS2 := hid HS1; clear hw2 k0 c4' hl0 HS1 hwb1; go_wp2_with fail; rw [HV.out] at HS2; refine HS2.out.mono ?_; rintro e w3 ⟨f1, d1, M', f', d', g', rfl, hs, hr, A3, E3, F3⟩; have HF := hid (And.intro hs hr); have R3 := (E3.nobody (qa0 HR2.out) (HFAR.out _ (by omega))).trans HR2.out; have HG1 := hid ((E3.old _ (qa0 HR2.out)).trans (HFAR.out _ (by omega))); have HR3 := hid R3; have TH := hid (qai R3 HC.out); have HALF := hid (all_oneCell_toArray f'.enc_one); have hz2 := HB1.out.size; obtain ⟨w4, hw4⟩ : ∃ w4, w4 = w3.setCells (w.heap.size + 1) 0 f'.enc.toArray.toList := ⟨_, rfl⟩; have HW4 := hid hw4; have HRG4 := hid (show w4.rangeAt (w.heap.size + 1) 0 f'.enc by rw [hw4]; exact World.rangeAt_setCells_same w3 (w.heap.size + 1) 0 f'.enc TH.out); have HA4 := hid (show qa6 g' w4 a P M' by rw [hw4]; exact A3.sets0 HG1.out 0 _); have HE4 := hid (ExtB.ext (lo := w.heap.size) (b := w.heap.size + 1) (HE1.out.trans E3) (show ExtB w.heap.size (w.heap.size + 1) g' g' w3 w4 by rw [hw4]; exact ExtB.sets 0 _) (by omega) (Nat.le_refl _)); have HF4 := hid ((F3.keep (w' := w4) (by rw [hw4, (qam _ _ _ _).2.2.2]; exact Nat.le_refl _) (fun x _ hx => by rw [hw4]; exact qaa _ _ _ _ _ (by have := hx.2; omega))).mono (fun x hx => (show g' x = 0 ∧ w.heap.size ≤ x from ⟨hx.1, by have := hx.2; omega⟩))); clear hw4 A3 E3 F3 R3 hs hr HS2; rw [f'.v_eq]; go_wp2_with (refine wpList_store_mid rfl 89 (.tmp 6) (.tmp 50) rfl (w.heap.size + 1) 0 f'.enc.toArray (by first | rfl | simp [Act.eval]) (by first | rfl | simp [Act.eval]) TH.out qaf HALF.out ?_; rw [← HW4.out]); refine bodyPost_ret (v := f'.v) ?_ rfl ⟨f1, d1, M', f', d', g', rfl, HF.out.1, HF.out.2, HA4.out, HE4.out, HF4.out⟩; exact qah results82 _ _ (w.heap.size + 1) _ _ rfl HRG4.out underlying89 rfl qaf
end
end
end Go.Proofs.YtecikkjbnkhhkaaGreat
