/- A part of the walk. -/
import Derived.Test.YtecikkjbnkhhkaaGreatP33
namespace Go.Proofs.YtecikkjbnkhhkaaGreat
open _root_.Go.Proofs.Tryz
set_option maxHeartbeats 4000000
set_option maxRecDepth 100000
section
open Go.RowKit
theorem Own.setPart8 {w : World} {lo : Nat} {b off c : Nat} {l : List qas} (h : Own qas.enc 330 8 w lo (some ⟨b, off, none⟩) c l) {i : Nat} (hi : i < l.length) {m : Nat} (hm : m < 8) (v : Value) (x' : qas) (hx : (qas.enc l[i]).set m v = qas.enc x') :
 Own qas.enc 330 8 (w.setCell ⟨b, off + i * 8 + m, none⟩ v) lo (some ⟨b, off, none⟩) c (l.set i x') := by
 obtain ⟨h1, h2, h3⟩ := h; rcases h3 with h3 | ⟨b', off', cur, hA, hlo, hh, hs, hc⟩
 · omega
 cases hA
 refine ⟨by rw [List.length_set]; exact h1, h2, .inr ⟨b, off, cur.setIfInBounds (off + i * 8 + m) v, rfl, hlo, heap_setCell_same w b _ cur _ _ hh, by simpa using hs, ?_⟩⟩; intro j u hu; have hlt := (List.getElem?_eq_some_iff.1 hu).1; rw [qao qas.enc_len, List.length_set] at hlt; obtain ⟨q, r, rfl, hq, hr⟩ : ∃ q r, j = q * 8 + r ∧ q < l.length ∧ r < 8 := ⟨j / 8, j % 8, by omega, by omega, by omega⟩; rw [qb0 qas.enc_len _ q (by rw [List.length_set]; exact hq) r hr, List.getElem_set] at hu; have hold := fun u' => hc (q * 8 + r) u'
 rw [qb0 qas.enc_len l q hq r hr] at hold; rw [Array.getElem?_setIfInBounds]; by_cases hqi : i = q
 · subst hqi
   rw [if_pos rfl, ← hx, List.getElem?_set] at hu; by_cases hrm : m = r
   · subst hrm
     rw [if_pos rfl, if_pos (by rw [qas.enc_len]; exact hm)] at hu; rw [if_pos (by omega), if_pos (by omega)]; exact hu
   · rw [if_neg hrm] at hu
     rw [if_neg (by omega)]; exact hold u hu
 · rw [if_neg hqi] at hu
   rw [if_neg (by omega)]; exact hold u hu
section
variable {g : Own8} {w w' : World} {lo a b t : Nat} {P : qag} {M : qa4} {ty : TypeId} {f : qa5} {d : FrD}
theorem WSt.setPart (h : WSt g w lo a P M b t ty f d) {pb po i : Nat} (hA : f.pA = some ⟨pb, po, none⟩) (hi : i < d.ps.length) {m : Nat} (hm : m < 8) (v : Value) (x' : qas) (hx : (qas.enc d.ps[i]).set m v = qas.enc x') :
 WSt g (w.setCell ⟨pb, po + i * 8 + m, none⟩ v) lo a P M b t ty f { d with ps := d.ps.set i x' } ∧ ExtB lo b g g w (w.setCell ⟨pb, po + i * 8 + m, none⟩ v) := by
 have hpc : ¬ f.pc = 0 := by have := h.prt.1.1; omega
 have hrow : qa8 f.pA f.pc = some pb := by rw [hA, qa8, if_neg hpc]; rfl
 have hlo := qe4 h.prt.1 pb hrow; have hg0 := h.prt.2.2 pb hrow; obtain ⟨cur, hcur⟩ := qef h.prt.1 hrow; have hne := h.hty.ne; have hpb : pb ≠ b := fun e => h.prt.1.notBox h.box hne.2.1 (e ▸ hrow.symm)
 have hk : ∀ j, j ≠ pb → (w.setCell ⟨pb, po + i * 8 + m, none⟩ v).heap[j]? = w.heap[j]? := fun j hj => Below.heap_setCell _ _ _ _ hj
 have hz : w.heap.size ≤ (w.setCell ⟨pb, po + i * 8 + m, none⟩ v).heap.size := by rw [World.size_setCell]; exact Nat.le_refl _
 have hprt := h.prt; rw [hA] at hprt; have e0 := ExtB.set (lo := lo) (b := pb) (g := g) (w := w) (po + i * 8 + m) v; refine ⟨⟨h.ar.set0 hg0 _ _, (hk b (fun e => hpb e.symm)).trans h.box, h.gb, h.hty, h.grp.keep hz (fun j _ _ _ hj => hk j (by omega)) fun _ _ => rfl, h.byt.keep (fun j _ _ hr => hk j fun e => h.byt.1.notBox hcur (by decide) (e ▸ hr)) fun _ _ => rfl, ?_, h.hit.keep (fun j _ _ hr => hk j fun e => h.hit.1.notBox hcur (by decide) (e ▸ hr)) fun _ _ => rfl⟩, ⟨e0.old, ⟨e0.only.os, e0.only.tape, e0.only.output, e0.only.size, fun j hj hn => hk j (fun e' => hn (.inr (.inl (by omega))))⟩⟩⟩; show RowG g qas.enc 330 8 _ lo f.pA f.pn f.pc (d.ps.set i x')
 rw [hA]; exact ⟨hprt.1.setPart8 hi hm v x' hx, by rw [List.length_set]; exact h.prt.2.1, hprt.2.2⟩
end
end
section
open Go.RowKit
def qpe (fn : Nat) (isB : qa7 → qas → Bool) : Prop := (∀ args w, (callFunc fn args).run prog w = .ok (.enter fn args) w) ∧ ∀ (c : qa7) (p : qas) (W : World), Calls prog fn #[.agg #[.int .i64 c.kind, .string c.key, .string c.val, .string c.tx, .slice c.gA c.gn c.gc], .agg #[.bool p.had, .string p.old.key, .int .u64 (p.old.id : Int), .int .u64 (p.old.ver : Int), .int .i64 p.old.line, .int .i64 p.old.cls, .int .i64 p.line, .int .i64 p.cls]] W fun e w' => e = .returned (.bool (isB c p)) ∧ Below W.heap.size W w'
theorem qAx : qpe 260 fun _ _ => true := by
 refine ⟨enters_of func260 (by kernel_rfl) rfl, ?_⟩; intro c p W; go_enter func260, ntmps260; go_wp2_with fail; go_ret; exact ⟨rfl, (by with_reducible repeat (first | exact Below.refl _ _ | assumption | refine Below.drew ?_ | refine qa1 ?_ _ | refine Below.alloc ?_ (by first | omega | simp <;> omega) _ | refine Below.setCell ?_ (by first | omega | simp <;> omega) _))⟩
theorem qAw : qpe 262 fun _ _ => true := by
 refine ⟨enters_of func262 (by kernel_rfl) rfl, ?_⟩; intro c p W; go_enter func262, ntmps262; go_wp2_with fail; go_ret; exact ⟨rfl, (by with_reducible repeat (first | exact Below.refl _ _ | assumption | refine Below.drew ?_ | refine qa1 ?_ _ | refine Below.alloc ?_ (by first | omega | simp <;> omega) _ | refine Below.setCell ?_ (by first | omega | simp <;> omega) _))⟩
theorem qAv : qpe 261 fun c p => (c.kind == 3) && !p.had := by
 refine ⟨enters_of func261 (by kernel_rfl) rfl, ?_⟩; intro c p W; go_enter func261, ntmps261; rcases Bool.eq_false_or_eq_true (c.kind == 3) with h3 | h3
 · rw [h3]
   go_wp2_with fail; go_ret; exact ⟨by simp, (by with_reducible repeat (first | exact Below.refl _ _ | assumption | refine Below.drew ?_ | refine qa1 ?_ _ | refine Below.alloc ?_ (by first | omega | simp <;> omega) _ | refine Below.setCell ?_ (by first | omega | simp <;> omega) _))⟩
 · rw [h3]
   go_wp2_with fail; go_ret; exact ⟨by simp, (by with_reducible repeat (first | exact Below.refl _ _ | assumption | refine Below.drew ?_ | refine qa1 ?_ _ | refine Below.alloc ?_ (by first | omega | simp <;> omega) _ | refine Below.setCell ?_ (by first | omega | simp <;> omega) _))⟩
section
variable {g : Own8} {w w' : World} {lo a b t : Nat} {P : qag} {M : qa4} {ty : TypeId} {f : qa5} {d : FrD}
def qBs (M : qa4) (f : qa5) (d : FrD) (M' : qa4) (f' : qa5) (d' : FrD) : Prop := f' = f ∧ ∃ S' ps', S'.length = M.S.length ∧ M' = { M with S := S' } ∧ ps'.length = d.ps.length ∧ d' = { d with ps := ps' }
theorem qi6.len {S S' : List qan} (h : qi6 S S') : S'.length = S.length := by
 rcases h with rfl | ⟨i, k, hi, rfl, _⟩
 · rfl
 · rw [List.length_set]
theorem qg1 (h : WSt g w lo a P M b t ty f d) (hgp : d.ps.length ≤ d.gr.length) (hb3 : d.ps.length ≤ 1000) {fn : Nat} {isB : qa7 → qas → Bool} (HI : qpe fn isB) :
 Calls prog 259 #[.pointer (some ⟨b, 0, none⟩), .func (.func fn) #[] #[]] w (qal lo a P b t ty (qBs M f d) g w) := by
 have H := hid h; have HII := hid HI; have c23 := h.box.c 23 rfl; rw [h.prt.2.1] at c23; have hl := h.box.lt; clear h HI; go_enter func259, ntmps259; go_upto_region 1 with fail; go_loopw [12] (fun v12 wr => ∃ (k : Nat) (g' : Own8) (S' : List qan) (ps' : List qas), k ≤ d.ps.length ∧ v12 = .int .i64 k ∧ S'.length = M.S.length ∧ ps'.length = d.ps.length ∧ WSt g' wr lo a P { M with S := S' } b t ty f { d with ps := ps' } ∧ ExtB lo b g g' w wr) (fun v12 _ => d.ps.length - (intOf v12).toNat)
 case atStart => exact ⟨0, g, M.S, d.ps, Nat.zero_le _, rfl, rfl, rfl, H.out, ExtB.refl _ _ _ _⟩
 case round =>
  obtain ⟨k, g1, S1, ps1, hkl, rfl, hS, hps, h1, e1⟩ := hrel; have HS := hid hS; have HPS := hid hps; have H1 := hid h1; have HE1 := hid e1; by_cases hlt : k < d.ps.length
  · have hk1 : k < ps1.length := by omega
    have hkg : k < d.gr.length := by omega
    have i1 : (0 : Int) ≤ (k : Int) := by omega
    have i2 : (k : Int) < (d.ps.length : Int) := by omega
    have i3 : (k : Int) < (ps1.length : Int) := by omega
    have i4 : (k : Int) < (d.gr.length : Int) := by omega
    have c23 := h1.box.c 23 rfl; have c6 := h1.box.c 6 rfl; rw [h1.prt.2.1] at c23; rw [h1.grp.1.2.1] at c6; have hl := h1.box.lt; obtain ⟨x, off, hA, hx, k0, k1, k2, k3, k4⟩ := h1.grp.1.1.call0 hkg; obtain ⟨pb, po, hpA⟩ : ∃ pb po, f.pA = some ⟨pb, po, none⟩ := by
     rcases h1.prt.1.arr qas.enc_len with h0 | ⟨pb, po, h1, _⟩
     · simp at h0; rw [h0] at hk1; simp at hk1
     · exact ⟨pb, po, h1⟩
    obtain ⟨hpl, hplo, hpb, hpc, hpf⟩ := h1.part hpA hk1; have p0 := hpc 0 _ rfl; have p1 := hpc 1 _ rfl; have p2 := hpc 2 _ rfl; have p3 := hpc 3 _ rfl; have p4 := hpc 4 _ rfl; have p5 := hpc 5 _ rfl; have p6 := hpc 6 _ rfl; have p7 := hpc 7 _ rfl; rw [hA] at c6; rw [hpA] at c23; obtain ⟨pt, hpt⟩ : ∃ pt, pt = ps1[k] := ⟨_, rfl⟩; obtain ⟨c, hc⟩ : ∃ c, c = d.gr[k] := ⟨_, rfl⟩; have q0 : wr.cell? ⟨x, off + k * 5, none⟩ = some (.int .i64 c.kind) := by rw [hc]; exact k0
    have q1 : wr.cell? ⟨x, off + k * 5 + 1, none⟩ = some (.string c.key) := by rw [hc]; exact k1
    have q2 : wr.cell? ⟨x, off + k * 5 + 2, none⟩ = some (.string c.val) := by rw [hc]; exact k2
    have q3 : wr.cell? ⟨x, off + k * 5 + 3, none⟩ = some (.string c.tx) := by rw [hc]; exact k3
    have q4 : wr.cell? ⟨x, off + k * 5 + 4, none⟩ = some (.slice c.gA c.gn c.gc) := by rw [hc]; exact k4
    have r0 : wr.cell? ⟨pb, po + k * 8, none⟩ = some (.bool pt.had) := by rw [hpt]; exact p0
    have r1 : wr.cell? ⟨pb, po + k * 8 + 1, none⟩ = some (.string pt.old.key) := by rw [hpt]; exact p1
    have r2 : wr.cell? ⟨pb, po + k * 8 + 2, none⟩ = some (.int .u64 (pt.old.id : Int)) := by rw [hpt]; exact p2
    have r3 : wr.cell? ⟨pb, po + k * 8 + 3, none⟩ = some (.int .u64 (pt.old.ver : Int)) := by rw [hpt]; exact p3
    have r4 : wr.cell? ⟨pb, po + k * 8 + 4, none⟩ = some (.int .i64 pt.old.line) := by rw [hpt]; exact p4
    have r5 : wr.cell? ⟨pb, po + k * 8 + 5, none⟩ = some (.int .i64 pt.old.cls) := by rw [hpt]; exact p5
    have r6 : wr.cell? ⟨pb, po + k * 8 + 6, none⟩ = some (.int .i64 pt.line) := by rw [hpt]; exact p6
    have r7 : wr.cell? ⟨pb, po + k * 8 + 7, none⟩ = some (.int .i64 pt.cls) := by rw [hpt]; exact p7
    have e6 : wr.cell? ⟨b, 6, none⟩ = some (.slice (some ⟨x, off, none⟩) d.gr.length f.call.gc) := c6; have e23 : wr.cell? ⟨b, 23, none⟩ = some (.slice (some ⟨pb, po, none⟩) ps1.length f.pc) := c23; have HPA := hid hpA; have HK1 := hid hk1; have HPT := hid hpt; clear k0 k1 k2 k3 k4 p0 p1 p2 p3 p4 p5 p6 p7 c6 c23 hA hpA h1 e1 hpt hc hpc hpf hS hkg; generalize d.gr.length = gn at e6 i4; go_upto_region 4 with fail; go_cut [42] (fun v42 wx => ∃ r : Bool, v42 = .bool r ∧ Below wr.heap.size wr wx)
    case first =>
     by_cases hln : 0 ≤ pt.line
     · have hge : decide (0 ≤ pt.line) = true := decide_eq_true hln
       clear hln; go_still_tail 19, (by kernel_rfl); have eg := HII.out.1; go_wp2_with fail; refine (HII.out.2 c pt _).mono ?_; rintro e w2 ⟨rfl, hb2⟩; have ST2 : Below wr.heap.size wr w2 := (Below.refl _ _).drew.trans (hb2.mono (Nat.le_refl _)); clear hb2; go_wp2_with fail; go_meet; exact ⟨isB c pt, rfl, ST2⟩
     · have hge : decide (0 ≤ pt.line) = false := decide_eq_false hln
       clear hln; go_quiet (fail); go_wp2_with fail; go_meet; exact ⟨false, rfl, (by with_reducible repeat (first | exact Below.refl _ _ | assumption | refine Below.drew ?_ | refine qa1 ?_ _ | refine Below.alloc ?_ (by first | omega | simp <;> omega) _ | refine Below.setCell ?_ (by first | omega | simp <;> omega) _))⟩
    obtain ⟨r, rfl, hb2⟩ := hcut; obtain ⟨w2, hw2⟩ : ∃ x, x = wc := ⟨_, rfl⟩; subst hw2; have h2 := H1.out.below hb2; have H2 := hid h2; have HE2 := hid (HE1.out.trans (.below hb2)); clear hb2 q0 q1 q2 q3 q4 r0 r1 r2 r3 r4 r5 r6 r7 e6 e23 hx hpl; cases r with
    | false =>
     clear h2; go_wp2_with fail; exact ⟨⟨k + 1, g1, S1, ps1, by omega, by go_num, HS.out, HPS.out, H2.out, HE2.out⟩, by simp [intOf]; omega⟩
    | true =>
     obtain ⟨hpl, hplo, hpb, hpc, hpf⟩ := h2.part HPA.out HK1.out; have r6 : w2.cell? ⟨pb, po + k * 8 + 6, none⟩ = some (.int .i64 pt.line) := by rw [HPT.out]; exact hpc 6 _ rfl
     have c0 := h2.c0; have hl := h2.box.lt; have TP := hid (qi1 h2.drew.ar); clear h2 hpc hpf; go_upto_region 5 with fail; go_still_tail 9, (by kernel_rfl); still_call TP.out; repeat still_step
     refine wpStill_nil ?_; change wpList _ _ _ _ _ (World.drew w2); have H3 := hid H2.out.drew; have HE3 : Hid (ExtB lo b g g1 w w2.drew) := hid (HE2.out.trans (ExtB.below (Below.refl _ _).drew)); generalize hw3 : World.drew w2 = w3 at *; clear hw3 c0 r6 hl hpl TP H2 HE2; go_wp2_with fail; refine (qmf H3.out.ar pt.line).mono ?_; rintro e w4 ⟨code, S', rfl, hs, g4, A4, E4⟩; have HS4 := hid (hs.len.trans HS.out); have h4 := H3.out.ext A4 E4; have H4 := hid h4; have HE4 := hid (HE3.out.trans (.of_ext E4)); obtain ⟨hpl, hplo, hpb, hpc, hpf⟩ := h4.part HPA.out HK1.out; have r6 : w4.cell? ⟨pb, po + k * 8 + 6, none⟩ = some (.int .i64 pt.line) := by rw [HPT.out]; exact hpc 6 _ rfl
     have f6 := hpf (po + k * 8 + 6); have HSP := hid (h4.setPart HPA.out HK1.out (m := 6) (by omega) (.int .i64 (-1)) { pt with line := -1 } (by rw [HPT.out]; rfl)); clear h4 A4 E4 hs hpc hpf H3 HE3; go_wp2_with fail; exact ⟨⟨k + 1, g4, S', ps1.set k { pt with line := -1 }, by omega, by go_num, HS4.out, by rw [List.length_set]; exact HPS.out, HSP.out.1, HE4.out.trans HSP.out.2⟩, by simp [intOf]; omega⟩
  · obtain rfl : k = d.ps.length := by omega
    clear hkl h1 e1; go_wp2_with fail; exact bodyPost_ret (v := .tuple #[]) (by simp [results, results259]) rfl ⟨rfl, _, _, _, ⟨rfl, S1, ps1, HS.out, rfl, HPS.out, rfl⟩, g1, H1.out, HE1.out⟩
end
end
section
open Go.RowKit
theorem qAr {W W' : World} {b q i0 i1 i2 i3 i4 i5 : Nat} {v0 v1 v2 v3 v4 v5 : Value} (hb : Below W.heap.size W W') (h0 : b < W.heap.size) (h1 : q < W.heap.size)
 (h : W.cell? ⟨b, i0, none⟩ = some v0 ∧ W.cell? ⟨q, i1, none⟩ = some v1 ∧ W.cell? ⟨q, i2, none⟩ = some v2 ∧ W.cell? ⟨q, i3, none⟩ = some v3 ∧ W.cell? ⟨q, i4, none⟩ = some v4 ∧ W.cell? ⟨q, i5, none⟩ = some v5) :
 W'.cell? ⟨b, i0, none⟩ = some v0 ∧ W'.cell? ⟨q, i1, none⟩ = some v1 ∧ W'.cell? ⟨q, i2, none⟩ = some v2 ∧ W'.cell? ⟨q, i3, none⟩ = some v3 ∧ W'.cell? ⟨q, i4, none⟩ = some v4 ∧ W'.cell? ⟨q, i5, none⟩ = some v5 :=
 have k : ∀ x o, x < W.heap.size → W'.cell? ⟨x, o, none⟩ = W.cell? ⟨x, o, none⟩ := fun x o hx => hb.cell (p := ⟨x, o, none⟩) hx
 ⟨(k _ _ h0).trans h.1, (k _ _ h1).trans h.2.1, (k _ _ h1).trans h.2.2.1, (k _ _ h1).trans h.2.2.2.1, (k _ _ h1).trans h.2.2.2.2.1, (k _ _ h1).trans h.2.2.2.2.2⟩
theorem qfw {g g' : Own8} {w0 W w' : World} {q : Nat} {cs : Array Value} {ty : TypeId} (hE : Ext g g' W w') (hb : Below w0.heap.size w0 W) (hq : q < w0.heap.size) (h0 : g q = 0) (hrow : w0.heap[q]? = some (.cells cs ty (0, 0))) : w'.heap[q]? = some (.cells cs ty (0, 0)) := by
 have h := qac hb hq hrow; exact (hE.nobody (qa0 h) h0).trans h
section
variable {g : Own8} {w w' : World} {lo a b t : Nat} {P : qag} {M : qa4} {ty : TypeId} {f : qa5} {d : FrD}
def qBd (M : qa4) (f : qa5) (d : FrD) (c : qa7) (pt : qas) (i : Nat) (M' : qa4) (f' : qa5) (d' : FrD) : Prop := ∃ ln code M1, qi2 M (qbh (qcz c)) ln code M1 ∧
 ((code = 0 ∧ M' = M1 ∧ f' = { f with piece := 0, phase := 4 } ∧ d' = { d with ps := d.ps.set i { pt with cls := qbh (qcz c), line := ln } }) ∨
  (code ≠ 0 ∧ f' = { f with code := code, phase := 6 } ∧ ∃ S' ps', S'.length = M1.S.length ∧ M' = { M1 with S := S' } ∧ ps'.length = d.ps.length ∧ d' = { d with ps := ps' }))
theorem qqc (h : WSt g w lo a P M b t ty f d) (i : Nat) (hat : f.at' = (i : Int)) (hg : i < d.gr.length) (hp : i < d.ps.length) (hgp : d.ps.length ≤ d.gr.length) (hb3 : d.ps.length ≤ 1000) (hck : d.gr[i].key.size ≤ 1000) (hcv : d.gr[i].val.size ≤ 1000) :
 Calls prog 202 #[.pointer (some ⟨b, 0, none⟩)] w (qal lo a P b t ty (qBd M f d d.gr[i] d.ps[i] i) g w) := by
 have H := hid h; have TN := hid (qhq h i hat hg hp); go_enter func202, ntmps202; go_wp2_with fail; refine TN.out.mono ?_; rintro e w1 ⟨pb, po, hA, rfl, hb1⟩; rw [show qbz d.gr[i] = .agg #[.int .i64 d.gr[i].kind, .string d.gr[i].key, .string d.gr[i].val, .string d.gr[i].tx, .slice d.gr[i].gA d.gr[i].gn d.gr[i].gc] from rfl]; generalize hcc : d.gr[i] = c at *; generalize hpt : d.ps[i] = pt at *; have HCC := hid hcc; have HPT := hid hpt; have HPA := hid hA; have HHP := hid hp; have HB3 := hid (And.intro hgp hb3); go_upto_region 1 with fail; generalize hw2 : World.alloc _ _ = w2; obtain ⟨q, hq⟩ : ∃ q, q = w1.heap.size := ⟨_, rfl⟩; have R2 : w2.heap[q]? = some (.cells c.enc.toArray 40 (0, 0)) := by rw [← hw2, hq]; exact (qa2 _ _ _).trans (if_pos rfl)
 have b2 : Below w.heap.size w w2 := by rw [← hw2]; exact hb1.alloc hb1.size _
 rw [← hq]; have h2 := H.out.below b2; have c0 := h2.c0; have q0 : w2.cell? ⟨q, 0, none⟩ = some (.int .i64 c.kind) := cell_of_row w2 _ 0 _ _ _ R2; have q1 : w2.cell? ⟨q, 1, none⟩ = some (.string c.key) := cell_of_row w2 _ 1 _ _ _ R2; have q2 : w2.cell? ⟨q, 2, none⟩ = some (.string c.val) := cell_of_row w2 _ 2 _ _ _ R2; have q3 : w2.cell? ⟨q, 3, none⟩ = some (.string c.tx) := cell_of_row w2 _ 3 _ _ _ R2; have q4 : w2.cell? ⟨q, 4, none⟩ = some (.slice c.gA c.gn c.gc) := cell_of_row w2 _ 4 _ _ _ R2; have hl := h2.box.lt; have hql := qa0 R2; have HGQ := hid (h.ar.far q (by have := hb1.size; omega)); have HRQ := hid R2; have H2 := hid h2; have HE2 : Hid (ExtB lo b g g w w2) := hid (ExtB.below b2); have HC := hid (And.intro c0 (And.intro q0 (And.intro q1 (And.intro q2 (And.intro q3 q4))))); have TS := hid (fun W => qhs c W (by omega) (by omega)); obtain ⟨k, hk⟩ : ∃ k, k = qbh (qcz c) := ⟨_, rfl⟩; have HTK : Hid (∀ W, Below w2.heap.size w2 W → Calls prog 245 #[.pointer (some ⟨a, 0, none⟩), .int .i64 (qcz c)] W fun r w' => ∃ ln code M', r = .returned (.tuple #[.int .i64 ln, .int .i64 k, .int .i64 code]) ∧ qi2 M k ln code M' ∧ ATo g W w' a P M') := hid fun W hW => by rw [hk]; exact qg3 (H2.out.below hW).ar _
 have HK := hid hk; clear h h2 TN hw2 R2 b2 hb1 hcc hpt hq hk hA hgp hb3 hat hck hcv; go_cut [4, 5, 6] (fun v4 v5 v6 wx => ∃ ln code M' g', v4 = .int .i64 ln ∧ v5 = .int .i64 k ∧ v6 = .int .i64 code ∧ qi2 M k ln code M' ∧ WSt g' wx lo a P M' b t ty f d ∧ ExtB lo b g g' w2 wx)
 case first =>
  go_region_held3 (fun W => W.cell? ⟨b, 0, none⟩ = some (.pointer (some ⟨a, 0, none⟩)) ∧ W.cell? ⟨q, 0, none⟩ = some (.int .i64 c.kind) ∧ W.cell? ⟨q, 1, none⟩ = some (.string c.key) ∧ W.cell? ⟨q, 2, none⟩ = some (.string c.val) ∧ W.cell? ⟨q, 3, none⟩ = some (.string c.tx) ∧ W.cell? ⟨q, 4, none⟩ = some (.slice c.gA c.gn c.gc)) (first | (with_reducible exact HSK) | (with_reducible refine qAr (W := w2) ?_ hl hql HC.out; (repeat (first | with_reducible exact Below.refl _ _ | with_reducible assumption | with_reducible refine Below.drew ?_ | with_reducible refine qa1 ?_ _)); done) | go_keep) (first | (go_at_call 246; refine (TS.out _).mono ?_; rintro r w3 ⟨rfl, hb3⟩; have ST3 : Below w2.heap.size w2 w3 := (by refine Below.trans ?_ (hb3.mono ?_); exact (by with_reducible repeat (first | exact Below.refl _ _ | assumption | refine Below.drew ?_ | refine qa1 ?_ _ | refine Below.alloc ?_ (by first | omega | simp <;> omega) _ | refine Below.setCell ?_ (by first | omega | simp <;> omega) _)); (first | exact Nat.le_refl _ | (simp; done) | (simp; omega) | omega)); clear hb3) | (go_at_call 245; refine (HTK.out _ ?_).mono ?_; exact (by with_reducible repeat (first | exact Below.refl _ _ | assumption | refine Below.drew ?_ | refine qa1 ?_ _ | refine Below.alloc ?_ (by first | omega | simp <;> omega) _ | refine Below.setCell ?_ (by first | omega | simp <;> omega) _)); rintro r w4 ⟨ln, code, M', rfl, htk, g4, A4, E4⟩; have HTR := hid htk; have HW4 := hid ((H2.out.below (by with_reducible repeat (first | exact Below.refl _ _ | assumption | refine Below.drew ?_ | refine qa1 ?_ _ | refine Below.alloc ?_ (by first | omega | simp <;> omega) _ | refine Below.setCell ?_ (by first | omega | simp <;> omega) _))).ext A4 E4); have HE4 := hid ((show ExtB lo b g g w2 _ from ExtB.below (by with_reducible repeat (first | exact Below.refl _ _ | assumption | refine Below.drew ?_ | refine qa1 ?_ _ | refine Below.alloc ?_ (by first | omega | simp <;> omega) _ | refine Below.setCell ?_ (by first | omega | simp <;> omega) _))).trans (.of_ext E4)); have hrq := qfw E4 (by with_reducible repeat (first | exact Below.refl _ _ | assumption | refine Below.drew ?_ | refine qa1 ?_ _ | refine Below.alloc ?_ (by first | omega | simp <;> omega) _ | refine Below.setCell ?_ (by first | omega | simp <;> omega) _)) hql HGQ.out HRQ.out; have HSK := (show w4.cell? ⟨b, 0, none⟩ = some (.pointer (some ⟨a, 0, none⟩)) ∧ w4.cell? ⟨q, 0, none⟩ = some (.int .i64 c.kind) ∧ w4.cell? ⟨q, 1, none⟩ = some (.string c.key) ∧ w4.cell? ⟨q, 2, none⟩ = some (.string c.val) ∧ w4.cell? ⟨q, 3, none⟩ = some (.string c.tx) ∧ w4.cell? ⟨q, 4, none⟩ = some (.slice c.gA c.gn c.gc) from ⟨HW4.out.c0, cell_of_row w4 _ 0 _ _ _ hrq, cell_of_row w4 _ 1 _ _ _ hrq, cell_of_row w4 _ 2 _ _ _ hrq, cell_of_row w4 _ 3 _ _ _ hrq, cell_of_row w4 _ 4 _ _ _ hrq⟩); clear htk A4 E4 hrq)); all_goals
   go_wp2_with fail; go_meet; refine ⟨ln, code, M', g4, rfl, rfl, rfl, HTR.out, ?_, ?_⟩
   · first | exact HW4.out | exact HW4.out.drew | exact HW4.out.drewN _
   · first | exact HE4.out | exact HE4.out.trans (ExtB.below (Below.refl _ _).drew) | exact HE4.out.trans (ExtB.below (qa1 (Below.refl _ _) _))
 obtain ⟨ln, code, M1, g3, rfl, rfl, rfl, htr, h3, e3⟩ := hcut; obtain ⟨w3, hw3⟩ : ∃ x, x = wc := ⟨_, rfl⟩; subst hw3; have HTR := hid htr; have H3 := hid h3; have HE3 := hid (HE2.out.trans e3); obtain ⟨hpl, hplo, hpb, hpc, hpf⟩ := h3.part HPA.out HHP.out; have p7 : w3.cell? ⟨pb, po + i * 8 + 7, none⟩ = some (.int .i64 pt.cls) := by rw [← HPT.out]; exact hpc 7 _ rfl
 have f7 := hpf (po + i * 8 + 7); clear htr h3 e3 hpc hpf c0 q0 q1 q2 q3 q4 hl hql HC TS HTK H2 HE2 HRQ HGQ H; go_upto_region 3 with fail; generalize hw4 : World.setCell w3 _ _ = w4 at *; have HSP := hid (H3.out.setPart HPA.out HHP.out (m := 7) (by omega) (.int .i64 k) { pt with cls := k } (by rw [HPT.out]; rfl)); rw [hw4] at HSP; have h4 := HSP.out.1; have H4 := hid h4; have HE4 := hid (HE3.out.trans HSP.out.2); clear h4 HSP hw4 p7 f7 hpl H3 HE3; have hlen : i < (d.ps.set i { pt with cls := k }).length := by rw [List.length_set]; exact HHP.out
 by_cases h0 : code = 0
 · subst h0
   have hgi : (d.ps.set i { pt with cls := k })[i] = { pt with cls := k } := by simp
   obtain ⟨hpl, hplo, hpb, hpc, hpf⟩ := H4.out.part HPA.out hlen; have p6 : w4.cell? ⟨pb, po + i * 8 + 6, none⟩ = some (.int .i64 pt.line) := by have := hpc 6 _ rfl; simpa using this
   have f6 := hpf (po + i * 8 + 6); have c20 := H4.out.box.c 20 rfl; have c7 := H4.out.box.c 7 rfl; have f20 := H4.out.box.fr 20; have f7 := H4.out.box.fr 7; have hl := H4.out.box.lt; have HSP := hid (H4.out.setPart HPA.out hlen (m := 6) (by omega) (.int .i64 ln) { pt with cls := k, line := ln } (by rw [hgi]; rfl)); clear hpc hpf hgi; go_wp2_with fail; refine bodyPost_ret (v := .tuple #[]) (by simp [results, results202]) rfl ⟨rfl, M1, _, _, ⟨ln, 0, M1, by rw [HCC.out, ← HK.out]; exact HTR.out, .inl ⟨rfl, rfl, rfl, rfl⟩⟩, g3, ?_, ((HE4.out.trans HSP.out.2).trans (ExtB.set 20 _)).trans (ExtB.set 7 _)⟩; have h5 := (HSP.out.1.set 20 (.int .i64 0) { f with piece := 0 } rfl ⟨rfl, rfl, rfl, rfl⟩).set 7 (.int .i64 4) { f with piece := 0, phase := 4 } rfl ⟨rfl, rfl, rfl, rfl⟩; rw [HCC.out, ← HK.out, HPT.out]; have e5 : ∀ (x y : qas), (d.ps.set i x).set i y = d.ps.set i y := fun x y => List.set_set ..
   rw [show ({ d with ps := d.ps.set i { pt with cls := k, line := ln } } : FrD) = { d with ps := (d.ps.set i { pt with cls := k }).set i { pt with cls := k, line := ln } } by rw [e5]]; exact h5
 · have hb : (code != 0) = true := by rw [bne_iff_ne]; exact h0
   have H0 := hid h0; have TB := hid (qg1 H4.out (by simp only [List.length_set]; exact HB3.out.1) (by simp only [List.length_set]; exact HB3.out.2) qAx); clear h0 hlen; go_wp2_with fail; refine TB.out.mono ?_; rintro r w5 ⟨rfl, M5, f5, d5, ⟨rfl, S', ps', hS, rfl, hps, rfl⟩, g5, h5, e5⟩; have HE5 := hid (HE4.out.trans e5); have HS := hid hS; have HPS : Hid (ps'.length = d.ps.length) := hid (hps.trans (by simp only [List.length_set])); have H5 := hid h5; have hl := h5.box.lt; have TF := hid (qcb h5 code); clear hS hps h5 e5 TB H4 HE4; go_wp2_with fail; refine TF.out.mono ?_; rintro r w6 ⟨rfl, hto⟩; have HTO := hid hto; clear hto TF; go_wp2_with fail; exact bodyPost_ret (v := .tuple #[]) (by simp [results, results202]) rfl ⟨rfl, _, _, _, ⟨ln, code, M1, by rw [HCC.out, ← HK.out]; exact HTR.out, .inr ⟨H0.out, rfl, S', ps', HS.out, rfl, HPS.out, rfl⟩⟩, WTo.trans HE5.out HTO.out⟩
end
end
end Go.Proofs.YtecikkjbnkhhkaaGreat
