/- A part of the walk. -/
import Derived.Test.YtecikkjbnkhhkaaGreatP35
import Derived.Test.YtecikkjbnkhhkaaGreatP39
import Derived.Test.YtecikkjbnkhhkaaGreatP41
namespace Go.Proofs.YtecikkjbnkhhkaaGreat
open _root_.Go.Proofs.Tryz
set_option maxHeartbeats 8000000
set_option maxRecDepth 100000
open Go.RowKit
theorem qwd : (prog.info? 376).map (fun i => (i.zero, i.size, i.bytes)) = some (some (.agg #[.int .i64 0, .string ByteArray.empty, .string ByteArray.empty, .bool false, .string ByteArray.empty, .int .u64 0, .int .u64 0, .int .i64 0, .int .i64 0, .int .i64 0, .int .i64 0]), 11, 112) := by kernel_rfl
theorem qzr {ops : Array Oper} {rest : List Oper} {o : Oper} {a : Act} {Q : Exit → Act → World → Prop} (w : World) (hgd : o.guard = none) (s x : Operand)
 (ho : o.op = .call { callee := .builtin .append, args := #[s, x], argTypes := #[377, 377] }) {lo : Nat} {A : Option Addr} {c : Nat} {l : List ChgC} (hs : a.eval s = .slice A l.length c) (own : Own ChgC.enc 376 11 w lo A c l)
 {B : Nat} {A2 : Option Addr} {m : List ChgC} (c2 : Nat) (hx : a.eval x = .slice A2 m.length c2) (arr : Arr ChgC.enc 11 w B A2 m) (hb : l.length + m.length ≤ 100000) (hlo : lo ≤ w.heap.size)
 (h : ∀ A' c' w', Own ChgC.enc 376 11 w' lo A' c' (l ++ m) → w.grownBy w' (qa8 A c) → (A' = A ∧ c' = c ∨ ∃ g, A' = some ⟨g, 0, none⟩ ∧ w.heap.size ≤ g) → wpList prog ops Q rest (a.put o.dst (.slice A' (l.length + m.length) c')) w') :
 wpList prog ops Q (o :: rest) a w := by
 obtain ⟨i0, hi, hz0, hz1, hz2⟩ := info_parts qwd; exact qar w hgd s x 377 ho i0 _ 112 underlying377 hi hz0 hz1 hz2 rfl (by decide) ChgC.enc_len ChgC.enc_one hs own c2 hx arr (by unfold maxLen; omega) (by omega) hlo h
theorem qr9 {w : World} {p : Nat} {x : ChgC} {ty : TypeId} (h : w.heap[p]? = some (.cells x.enc.toArray ty (0, 0))) : Arr ChgC.enc 11 w w.heap.size (some ⟨p, 0, none⟩) [x] := .inr ⟨p, 0, rfl, qa0 h, qtn h⟩
theorem qaq (w : World) (x : Obj) : (w.alloc x).heap[w.heap.size]? = some x := (qa2 _ _ _).trans (if_pos rfl)
def chP (c : qa7) (p : qas) : ChgC := ⟨c.kind, c.key, c.val, p.had, p.old, p.line, p.cls⟩
def chgs (d : FrD) : List ChgC := List.zipWith chP d.gr d.ps
theorem qki {d : FrD} {k : Nat} (h : k < (chgs d).length) (h1 : k < d.gr.length) (h2 : k < d.ps.length) : (chgs d)[k] = chP d.gr[k] d.ps[k] := List.getElem_zipWith ..
theorem qAs {W W' : World} {b i0 i1 i2 : Nat} {v0 v1 v2 : Value} (hb : Below W.heap.size W W') (h0 : b < W.heap.size)
 (h : W.cell? ⟨b, i0, none⟩ = some v0 ∧ W.cell? ⟨b, i1, none⟩ = some v1 ∧ W.cell? ⟨b, i2, none⟩ = some v2) :
 W'.cell? ⟨b, i0, none⟩ = some v0 ∧ W'.cell? ⟨b, i1, none⟩ = some v1 ∧ W'.cell? ⟨b, i2, none⟩ = some v2 :=
 have k : ∀ o, W'.cell? ⟨b, o, none⟩ = W.cell? ⟨b, o, none⟩ := fun o => hb.cell (p := ⟨b, o, none⟩) h0
 ⟨(k _).trans h.1, (k _).trans h.2.1, (k _).trans h.2.2⟩
section
variable {g : Own8} {w w' : World} {lo a b t : Nat} {P : qag} {M : qa4} {ty : TypeId} {f : qa5} {d : FrD}
def qyd (M : qa4) (f : qa5) (d : FrD) (M' : qa4) (f' : qa5) (d' : FrD) : Prop := ∃ code M1, PubR M f.ep (chgs d) code M1 ∧
 ((code = 0 ∧ ∃ S' ps' A c, S'.length = M1.S.length ∧ M' = { M1 with S := S' } ∧ ps'.length = d.ps.length ∧ f' = { f with hA := A, hn := (chgs d).length, hc := c, aep := f.ep, phase := 6 } ∧ d' = { d with ps := ps', hs := (chgs d).map hadB }) ∨
  (code = 8 ∧ M' = M1 ∧ ∃ ps', ps'.length = d.ps.length ∧ f' = { f with ep := M1.now, at' := 0, pos := ByteArray.empty, past := false, phase := 1 } ∧ d' = { d with ps := ps' }) ∨
  (code ≠ 0 ∧ code ≠ 8 ∧ f' = { f with code := code, phase := 6 } ∧ ∃ S' ps', S'.length = M1.S.length ∧ M' = { M1 with S := S' } ∧ ps'.length = d.ps.length ∧ d' = { d with ps := ps' }))
theorem WSt.newHits (h : WSt g w lo a P M b t ty f d) {A : Option Addr} {c n' : Nat} {hs' : List Bool} (hown : Own bitE 4 1 w lo A c hs') (hri : qc8 g 0 A c) (hn : n' = hs'.length) : WSt g (w.setCell ⟨b, 28, none⟩ (.slice A n' c)) lo a P M b t ty { f with hA := A, hn := n', hc := c } { d with hs := hs' } := by
 have hne := h.hty.ne; have hk : ∀ j, j ≠ b → (w.setCell ⟨b, 28, none⟩ (.slice A n' c)).heap[j]? = w.heap[j]? := fun j hj => Below.heap_setCell _ _ _ _ hj
 have hz : w.heap.size ≤ (w.setCell ⟨b, 28, none⟩ (.slice A n' c)).heap.size := by rw [World.size_setCell]; exact Nat.le_refl _
 exact ⟨h.ar.set0 h.gb 28 _, h.box.set 28 _ _ rfl, h.gb, h.hty, h.grp.keep hz (fun j _ _ hj _ => hk j hj) fun _ _ => rfl,
  h.byt.keep (fun j _ _ hr => hk j fun e => h.byt.1.notBox h.box hne.1 (e ▸ hr)) fun _ _ => rfl,
  h.prt.keep (fun j _ _ hr => hk j fun e => h.prt.1.notBox h.box hne.2.1 (e ▸ hr)) fun _ _ => rfl,
  RowG.keep (g := g) (w := w) ⟨hown, hn, hri⟩ (fun j _ _ hr => hk j fun e => hown.notBox h.box hne.2.2 (e ▸ hr)) fun _ _ => rfl⟩
theorem qkc (h : WSt g w lo a P M b t ty f d) {n th : Nat} (hok : OkA M n th) (hn : n ≤ 40000) (ht : t < th) (hgp : d.ps.length = d.gr.length) (hb3 : d.ps.length ≤ 1000) (hsz : ∀ x ∈ d.gr, x.key.size ≤ 1000000 ∧ x.val.size ≤ 1000000) (hlo : lo ≤ w.heap.size) :
 Calls prog 204 #[.pointer (some ⟨b, 0, none⟩)] w (qal lo a P b t ty (qyd M f d) g w) := by
 have hcl : (chgs d).length = d.gr.length := by unfold chgs; rw [List.length_zipWith]; omega
 have H := hid h; have HCL := hid hcl; have HLO := hid hlo; have HB3 := hid (And.intro hgp hb3); have HTP : Hid (∀ W A c, Below w.heap.size w W → Own ChgC.enc 376 11 W w.heap.size A c (chgs d) → Calls prog 248 #[.pointer (some ⟨a, 0, none⟩), .int .i64 (t : Int), .int .u64 (f.ep : Int), .slice A d.gr.length c] W (qi5 a P M f.ep (chgs d) g W)) := hid fun W A c hW hown => by
  rw [← hcl]; refine qfr (h.below hW).ar hok hn ht f.ep (chgs d) A c (hown.arr ChgC.enc_len) ?_ hown.1 hown.2.1 (fun x hx => ?_)
  · rcases hown.2.2 with h0 | ⟨b', off, cur, hA, hlo', _⟩
    · left
      have := hown.1; exact List.eq_nil_of_length_eq_zero (by omega)
    · exact .inr ⟨b', off, hA, h.ar.far b' hlo'⟩
  · obtain ⟨i, hi, rfl⟩ := List.getElem_of_mem hx
    have hi' : i < d.gr.length := by omega
    rw [qki hi hi' (by omega)]; exact hsz _ (List.getElem_mem hi')
 have c6 := h.box.c 6 rfl; rw [h.grp.1.2.1] at c6; have hl := h.box.lt; clear h hok hsz hcl hgp hb3 hlo; go_enter func204, ntmps204; go_upto_region 3 with fail; go_loopw [3, 20] (fun v3 v20 wr => ∃ (k : Nat) (A : Option Addr) (c : Nat), k ≤ d.gr.length ∧ v20 = .int .i64 k ∧ v3 = .slice A k c ∧ Own ChgC.enc 376 11 wr w.heap.size A c ((chgs d).take k) ∧ Below w.heap.size w wr) (fun _ v20 _ => d.gr.length - (intOf v20).toNat)
 case atStart => exact ⟨0, none, 0, Nat.zero_le _, rfl, rfl, Own.none_, Below.refl _ _⟩
 case round =>
  obtain ⟨k, A, c, hkl, rfl, rfl, hown, hbr⟩ := hrel; have HOW := hid hown; have HBR := hid hbr; by_cases hlt : k < d.gr.length
  · have h1 := H.out.below hbr
    have hk1 : k < d.ps.length := by rw [HB3.out.1]; exact hlt
    have hk1000 : k ≤ 1000 := by have := HB3.out; omega
    have i1 : (0 : Int) ≤ (k : Int) := by omega
    have i2 : (k : Int) < (d.gr.length : Int) := by omega
    have i3 : (k : Int) < (d.ps.length : Int) := by omega
    obtain ⟨pt, hpt⟩ : ∃ pt, pt = d.ps[k] := ⟨_, rfl⟩; obtain ⟨cl, hc⟩ : ∃ c, c = d.gr[k] := ⟨_, rfl⟩; have c23 := h1.box.c 23 rfl; rw [h1.prt.2.1] at c23; have hl := h1.box.lt; obtain ⟨x, off, hA, hx, k0, k1, k2, k3, k4⟩ := h1.grp.1.1.call0 hlt; obtain ⟨pb, po, hpA⟩ : ∃ pb po, f.pA = some ⟨pb, po, none⟩ := by
     rcases h1.prt.1.arr qas.enc_len with h0 | ⟨pb, po, h1, _⟩
     · rw [h0] at hk1; simp at hk1
     · exact ⟨pb, po, h1⟩
    obtain ⟨hpl, hplo, hpb, hpc, hpf⟩ := h1.part hpA hk1; rw [← hpt] at hpc; rw [← hc] at k0 k1 k2 k3 k4; have r0 : wr.cell? ⟨pb, po + k * 8, none⟩ = some (.bool pt.had) := hpc 0 _ rfl; have r1 : wr.cell? ⟨pb, po + k * 8 + 1, none⟩ = some (.string pt.old.key) := hpc 1 _ rfl; have r2 : wr.cell? ⟨pb, po + k * 8 + 2, none⟩ = some (.int .u64 (pt.old.id : Int)) := hpc 2 _ rfl; have r3 : wr.cell? ⟨pb, po + k * 8 + 3, none⟩ = some (.int .u64 (pt.old.ver : Int)) := hpc 3 _ rfl; have r4 : wr.cell? ⟨pb, po + k * 8 + 4, none⟩ = some (.int .i64 pt.old.line) := hpc 4 _ rfl; have r5 : wr.cell? ⟨pb, po + k * 8 + 5, none⟩ = some (.int .i64 pt.old.cls) := hpc 5 _ rfl; have r6 : wr.cell? ⟨pb, po + k * 8 + 6, none⟩ = some (.int .i64 pt.line) := hpc 6 _ rfl; have r7 : wr.cell? ⟨pb, po + k * 8 + 7, none⟩ = some (.int .i64 pt.cls) := hpc 7 _ rfl; rw [hpA] at c23; have HTK := hid (show (chgs d).take (k + 1) = (chgs d).take k ++ [chP cl pt] by
     have hk2 : k < (chgs d).length := by rw [HCL.out]; exact hlt
     rw [List.take_succ_eq_append_getElem hk2]
     rw [qki hk2 hlt hk1, hc, hpt])
    have HLK := hid (show ((chgs d).take k).length = k by rw [List.length_take, HCL.out]; omega); have HPB := hid (And.intro hpl hpb); clear h1 hpt hc hpc hpf hown hbr hpb; rw [hA]; clear hA hpA c6; go_upto_region 6 with fail; generalize hw4 : World.alloc _ _ = w4; have R5 : w4.heap[wr.heap.size]? = some (.cells cl.enc.toArray 40 (0, 0)) := by rw [← hw4]; exact (Below.heap_alloc _ _ _ (by simp)).trans (qaq _ _)
    have R6 : w4.heap[wr.heap.size + 1]? = some (.cells pt.enc.toArray 330 (0, 0)) := by rw [← hw4]; exact (qa2 _ _ _).trans (if_pos (by simp))
    have b4 : Below w.heap.size w w4 := by rw [← hw4]; exact (HBR.out.alloc HBR.out.size _).alloc (by simp; have := HBR.out.size; omega) _
    have b4' : Below wr.heap.size wr w4 := by rw [← hw4]; exact ((Below.refl _ _).alloc (Nat.le_refl _) _).alloc (by simp) _
    obtain ⟨vb, hvb⟩ : ∃ vb, vb = wr.heap.size := ⟨_, rfl⟩; rw [← hvb] at R5 R6 ⊢; have q0 : w4.cell? ⟨vb, 0, none⟩ = some (.int .i64 cl.kind) := cell_of_row w4 _ 0 _ _ _ R5; have q1 : w4.cell? ⟨vb, 1, none⟩ = some (.string cl.key) := cell_of_row w4 _ 1 _ _ _ R5; have q2 : w4.cell? ⟨vb, 2, none⟩ = some (.string cl.val) := cell_of_row w4 _ 2 _ _ _ R5; have r0 : w4.cell? ⟨vb + 1, 0, none⟩ = some (.bool pt.had) := cell_of_row w4 _ 0 _ _ _ R6; have r1 : w4.cell? ⟨vb + 1, 1, none⟩ = some (.string pt.old.key) := cell_of_row w4 _ 1 _ _ _ R6; have r2 : w4.cell? ⟨vb + 1, 2, none⟩ = some (.int .u64 (pt.old.id : Int)) := cell_of_row w4 _ 2 _ _ _ R6; have r3 : w4.cell? ⟨vb + 1, 3, none⟩ = some (.int .u64 (pt.old.ver : Int)) := cell_of_row w4 _ 3 _ _ _ R6; have r4 : w4.cell? ⟨vb + 1, 4, none⟩ = some (.int .i64 pt.old.line) := cell_of_row w4 _ 4 _ _ _ R6; have r5 : w4.cell? ⟨vb + 1, 5, none⟩ = some (.int .i64 pt.old.cls) := cell_of_row w4 _ 5 _ _ _ R6; have r6 : w4.cell? ⟨vb + 1, 6, none⟩ = some (.int .i64 pt.line) := cell_of_row w4 _ 6 _ _ _ R6; have r7 : w4.cell? ⟨vb + 1, 7, none⟩ = some (.int .i64 pt.cls) := cell_of_row w4 _ 7 _ _ _ R6; have hl5 := qa0 R5; have hl6 := qa0 R6; have HO4 := hid (HOW.out.below b4'); have HB4 := hid b4; obtain ⟨L, hL⟩ : ∃ L, L = (chgs d).take k := ⟨_, rfl⟩; rw [← hL] at HTK HO4 HLK; clear hvb hw4 R5 R6 b4 b4' k0 k1 k2 k3 k4 c23 HOW HBR hx HPB hL; go_wp2_with (at_builtin; refine qzr (l := L) (m := [chP cl pt]) (A := A) (c := c) (lo := w.heap.size) _ rfl (.tmp 32) (.tmp 48) rfl (by rw [HLK.out]; simp [Act.eval]) (HO4.out.alloc _) (A2 := some ⟨w4.heap.size, 0, none⟩) 1 (by simp [Act.eval]) (qr9 (x := chP cl pt) (by rw [qa2, if_pos rfl]; rfl)) (by rw [HLK.out]; simp; have := HB3.out; omega) (by have := HB4.out.size; simp; omega) ?_; intro A5 c5 w5 hown hgr hloc); have b5 : Below w.heap.size w w5 := (HB4.out.alloc HB4.out.size _).grown hgr (by have := HB4.out.size; simp; omega) (fun j hj => qe4 HO4.out j hj); exact ⟨⟨k + 1, A5, c5, by omega, by go_num, by rw [HLK.out], by rw [HTK.out]; exact hown, b5⟩, by simp [intOf]; omega⟩
  · obtain rfl : k = d.gr.length := by omega
    have HOW1 : Hid (Own ChgC.enc 376 11 wr w.heap.size A c (chgs d)) := hid (by
     have := HOW.out
     rwa [List.take_of_length_le (by rw [HCL.out]; exact Nat.le_refl _)] at this)
    obtain ⟨w1, hw1⟩ : ∃ x, x = wr := ⟨_, rfl⟩; subst hw1; have h1 := H.out.below hbr; have c0 := h1.c0; have c1 := h1.c1; have c8 := h1.box.c 8 rfl; have hl := h1.box.lt; have HLO1 := hid (show lo ≤ w1.heap.size by have := hbr.size; have := HLO.out; omega); have HC0 := hid (And.intro c0 (And.intro c1 c8)); have H1 := hid h1; have HE1 : Hid (ExtB lo b g g w w1) := hid (ExtB.below hbr); have HTQ : Hid (∀ W, Below w1.heap.size w1 W → Calls prog 248 #[.pointer (some ⟨a, 0, none⟩), .int .i64 (t : Int), .int .u64 (f.ep : Int), .slice A d.gr.length c] W (qi5 a P M f.ep (chgs d) g W)) := hid fun W hW => HTP.out W A c (HBR.out.trans (hW.mono HBR.out.size)) (HOW1.out.below hW)
    clear hown hkl hlt HOW hbr HBR HOW1 h1 HTP c6 H; go_upto_region 8 with fail; go_cut [7, 8] (fun v7 v8 wx => ∃ A3 m3 c3 code M1 g3, v7 = .slice A3 m3 c3 ∧ v8 = .int .i64 code ∧ PubR M f.ep (chgs d) code M1 ∧ WSt g3 wx lo a P M1 b t ty f d ∧ ExtB lo b g g3 w1 wx ∧ (code = 0 → m3 = (chgs d).length ∧ Own bitE 4 1 wx lo A3 c3 ((chgs d).map hadB) ∧ qc8 g3 0 A3 c3))
    case first =>
     go_region_held3 (fun W => W.cell? ⟨b, 0, none⟩ = some (.pointer (some ⟨a, 0, none⟩)) ∧ W.cell? ⟨b, 1, none⟩ = some (.int .i64 (t : Int)) ∧ W.cell? ⟨b, 8, none⟩ = some (.int .u64 (f.ep : Int))) (first | (with_reducible exact HSK) | (with_reducible refine qAs (W := w1) ?_ hl HC0.out; (repeat (first | with_reducible exact Below.refl _ _ | with_reducible assumption | with_reducible refine Below.drew ?_ | with_reducible refine qa1 ?_ _)); done) | go_keep) (first | (go_at_call 248; refine (HTQ.out _ ?_).mono ?_; exact (by with_reducible repeat (first | exact Below.refl _ _ | assumption | refine Below.drew ?_ | refine qa1 ?_ _ | refine Below.alloc ?_ (by first | omega | simp <;> omega) _ | refine Below.setCell ?_ (by first | omega | simp <;> omega) _)); rintro r w3 ⟨A3, m3, c3, code, M1, g3, rfl, hpr, AR3, E3, hon⟩; have HPR := hid hpr; have HON : Hid (code = 0 → m3 = (chgs d).length ∧ Own bitE 4 1 w3 lo A3 c3 ((chgs d).map hadB) ∧ qc8 g3 0 A3 c3) := hid (fun e => ⟨(hon e).1, (hon e).2.1.lower (lo' := lo) (by first | exact HLO1.out | (simp; exact HLO1.out)), (hon e).2.2⟩); have HW3 := hid ((H1.out.below (by with_reducible repeat (first | exact Below.refl _ _ | assumption | refine Below.drew ?_ | refine qa1 ?_ _ | refine Below.alloc ?_ (by first | omega | simp <;> omega) _ | refine Below.setCell ?_ (by first | omega | simp <;> omega) _))).ext AR3 E3); have HE3 := hid ((show ExtB lo b g g w1 _ from ExtB.below (by with_reducible repeat (first | exact Below.refl _ _ | assumption | refine Below.drew ?_ | refine qa1 ?_ _ | refine Below.alloc ?_ (by first | omega | simp <;> omega) _ | refine Below.setCell ?_ (by first | omega | simp <;> omega) _))).trans (.of_ext E3)); have HSK := (show w3.cell? ⟨b, 0, none⟩ = some (.pointer (some ⟨a, 0, none⟩)) ∧ w3.cell? ⟨b, 1, none⟩ = some (.int .i64 (t : Int)) ∧ w3.cell? ⟨b, 8, none⟩ = some (.int .u64 (f.ep : Int)) from ⟨HW3.out.c0, HW3.out.c1, HW3.out.box.c 8 rfl⟩); clear hpr hon AR3 E3)); all_goals
      go_wp2_with fail; go_meet; refine ⟨A3, m3, c3, code, M1, g3, rfl, rfl, HPR.out, ?_, ?_, ?_⟩
      · first | exact HW3.out | exact HW3.out.drew | exact HW3.out.drewN _
      · first | exact HE3.out | exact HE3.out.trans (ExtB.below (Below.refl _ _).drew) | exact HE3.out.trans (ExtB.below (qa1 (Below.refl _ _) _))
      · first | exact HON.out | exact fun e => ⟨(HON.out e).1, (HON.out e).2.1.drew, (HON.out e).2.2⟩ | exact fun e => ⟨(HON.out e).1, (HON.out e).2.1.below (by with_reducible repeat (first | exact Below.refl _ _ | assumption | refine Below.drew ?_ | refine qa1 ?_ _ | refine Below.alloc ?_ (by first | omega | simp <;> omega) _ | refine Below.setCell ?_ (by first | omega | simp <;> omega) _)), (HON.out e).2.2⟩
    obtain ⟨A3, m3, c3, code, M1, g3, rfl, rfl, hpr, h3, e3, hon⟩ := hcut; obtain ⟨w3, hw3⟩ : ∃ x, x = wc := ⟨_, rfl⟩; subst hw3; have HPR := hid hpr; have HON := hid hon; have H3 := hid h3; have HE3 := hid (HE1.out.trans e3); clear hpr hon h3 e3 HTQ HC0 H1 HE1 c0 c1 c8 hl; by_cases h0 : code = 0
    · subst h0
      obtain ⟨hm3, hown, hri⟩ := HON.out rfl; have HOWN := hid hown; have HRI := hid hri; have HM3 := hid hm3; have f28 := H3.out.box.fr 28; have f29 := H3.out.box.fr 29; have f7 := H3.out.box.fr 7; have c28 := H3.out.box.c 28 rfl; have c29 := H3.out.box.c 29 rfl; have c7 := H3.out.box.c 7 rfl; have c8 := H3.out.box.c 8 rfl; have hl := H3.out.box.lt; clear hown hri hm3 HON; go_upto_region 14 with fail; generalize hw4 : World.setCell _ _ _ = w4; obtain ⟨f4, hf4⟩ : ∃ f4 : qa5, f4 = { f with hA := A3, hn := m3, hc := c3, aep := f.ep, phase := 6 } := ⟨_, rfl⟩; obtain ⟨d4, hd4⟩ : ∃ d4 : FrD, d4 = { d with hs := (chgs d).map hadB } := ⟨_, rfl⟩; have H4 : Hid (WSt g3 w4 lo a P M1 b t ty f4 d4) := hid (by
       rw [← hw4, hf4, hd4]
       exact (((H3.out.newHits HOWN.out HRI.out (n' := m3) (by rw [List.length_map]; exact HM3.out)).set 29 (.int .u64 (f.ep : Int)) { f with hA := A3, hn := m3, hc := c3, aep := f.ep } rfl ⟨rfl, rfl, rfl, rfl⟩).set 7 (.int .i64 6) { f with hA := A3, hn := m3, hc := c3, aep := f.ep, phase := 6 } rfl ⟨rfl, rfl, rfl, rfl⟩))
      have HE4 : Hid (ExtB lo b g g3 w w4) := hid (by rw [← hw4]; exact ((HE3.out.trans (ExtB.set 28 _)).trans (ExtB.set 29 _)).trans (ExtB.set 7 _)); have hp4 : d4.ps = d.ps := by rw [hd4]
      have hg4 : d4.gr = d.gr := by rw [hd4]
      have HP4 := hid hp4; have HF4 := hid hf4; have HD4 := hid hd4; have TB := hid (qg1 H4.out (by rw [hp4, hg4, HB3.out.1]; exact Nat.le_refl _) (by rw [hp4]; exact HB3.out.2) qAv); clear hw4 hp4 hg4 hf4 hd4 f28 f29 f7 c28 c29 c7 c8 hl H3 HE3 H4 HOWN HRI; go_wp2_with fail; refine TB.out.mono ?_; rintro r w5 ⟨rfl, M5, f5, d5, ⟨rfl, S5, ps5, hS, rfl, hps, rfl⟩, g5, h5, e5⟩; have HS := hid hS; have H5 := hid h5; have HE5 := hid (HE4.out.trans e5); rw [HP4.out] at hps; have HPS := hid hps; have c23 := h5.box.c 23 rfl; rw [h5.prt.2.1] at c23; have e23 : w5.cell? ⟨b, 23, none⟩ = some (.slice f5.pA d.ps.length f5.pc) := by rw [← hps]; exact c23
      have hl := h5.box.lt; clear hS h5 e5 TB HE4 hps c23; go_upto_region 16 with fail; go_loopw [99] (fun v99 wr => ∃ (k : Nat) (ps' : List qas), k ≤ d.ps.length ∧ v99 = .int .i64 k ∧ ps'.length = d.ps.length ∧ WSt g5 wr lo a P { M1 with S := S5 } b t ty f5 { d4 with ps := ps' } ∧ ExtB lo b g g5 w wr) (fun v99 _ => d.ps.length - (intOf v99).toNat)
      case atStart => exact ⟨0, ps5, Nat.zero_le _, rfl, HPS.out, H5.out, HE5.out⟩
      case round =>
       obtain ⟨k, ps6, hkl, rfl, hp6, h6, e6⟩ := hrel; have HP6 := hid hp6; have H6 := hid h6; have HE6 := hid e6; by_cases hlt : k < d.ps.length
       · have hk6 : k < ps6.length := by omega
         have hk1000 : k ≤ 1000 := by have := HB3.out; omega
         have i1 : (0 : Int) ≤ (k : Int) := by omega
         have i2 : (k : Int) < (d.ps.length : Int) := by omega
         obtain ⟨pb, po, hpA⟩ : ∃ pb po, f5.pA = some ⟨pb, po, none⟩ := by
          rcases h6.prt.1.arr qas.enc_len with h0 | ⟨pb, po, h1, _⟩
          · simp at h0; rw [h0] at hk6; simp at hk6
          · exact ⟨pb, po, h1⟩
         have c23 := h6.box.c 23 rfl; rw [h6.prt.2.1] at c23; have e23 : wr.cell? ⟨b, 23, none⟩ = some (.slice (some ⟨pb, po, none⟩) d.ps.length f5.pc) := by rw [← hp6, ← hpA]; exact c23
         obtain ⟨hpl, hplo, hpb, hpc, hpf⟩ := h6.part hpA hk6; obtain ⟨v6, p6⟩ : ∃ v, wr.cell? ⟨pb, po + k * 8 + 6, none⟩ = some v := ⟨_, hpc 6 _ rfl⟩; have g6 := hpf (po + k * 8 + 6); have hl := h6.box.lt; have HSP := hid (h6.setPart hpA hk6 (m := 6) (by omega) (.int .i64 (-1)) { ps6[k] with line := -1 } rfl); clear h6 e6 hpc hpf c23 hp6 hpA H6; go_wp2_with fail; exact ⟨⟨k + 1, _, by omega, by go_num, by rw [List.length_set]; exact HP6.out, HSP.out.1, HE6.out.trans HSP.out.2⟩, by simp [intOf]; omega⟩
       · obtain rfl : k = d.ps.length := by omega
         clear hkl hlt h6 e6 hp6; go_wp2_with fail; refine bodyPost_ret (v := .tuple #[]) (by simp [results, results204]) rfl ⟨rfl, _, _, _, ⟨0, M1, HPR.out, .inl ⟨rfl, S5, ps6, A3, c3, HS.out, rfl, HP6.out, by rw [HF4.out, HM3.out], by rw [HD4.out]⟩⟩, g5, H6.out, HE6.out⟩
    · have hb0 : (code == 0) = false := by rw [beq_eq_false_iff_ne]; exact h0
      have H0 := hid h0; clear h0 HON HLO1; by_cases h8 : code = 8
      · subst h8
        have c0 := H3.out.c0; have f7 := H3.out.box.fr 7; have f8 := H3.out.box.fr 8; have f9 := H3.out.box.fr 9; have f10 := H3.out.box.fr 10; have f22 := H3.out.box.fr 22; have c7 := H3.out.box.c 7 rfl; have c8 := H3.out.box.c 8 rfl; have c9 := H3.out.box.c 9 rfl; have c10 := H3.out.box.c 10 rfl; have c22 := H3.out.box.c 22 rfl; have c23 := H3.out.box.c 23 rfl; rw [H3.out.prt.2.1] at c23; have hl := H3.out.box.lt; have TC := hid (qcr H3.out.ar); have TN := hid (qgy H3.out.ar); clear hb0; go_wp2_with fail; refine TC.out.mono ?_; rintro e w4 ⟨rfl, rfl⟩; go_wp2_with fail; refine TN.out.mono ?_; rintro e w5 ⟨rfl, rfl⟩; go_upto_region 23 with fail; generalize hw6 : World.setCell _ _ _ = w6; obtain ⟨f6, hf6⟩ : ∃ f6 : qa5, f6 = { f with ep := M1.now, at' := 0, pos := ByteArray.empty, past := false, phase := 1 } := ⟨_, rfl⟩; have H6 : Hid (WSt g3 w6 lo a P M1 b t ty f6 d) := hid (by
         rw [← hw6, hf6]
         exact ((((H3.out.set 8 (.int .u64 (M1.now : Int)) { f with ep := M1.now } rfl ⟨rfl, rfl, rfl, rfl⟩).set 22 (.int .i64 0) { f with ep := M1.now, at' := 0 } rfl ⟨rfl, rfl, rfl, rfl⟩).set 9 (.string ByteArray.empty) { f with ep := M1.now, at' := 0, pos := ByteArray.empty } rfl ⟨rfl, rfl, rfl, rfl⟩).set 10 (.bool false) { f with ep := M1.now, at' := 0, pos := ByteArray.empty, past := false } rfl ⟨rfl, rfl, rfl, rfl⟩).set 7 (.int .i64 1) { f with ep := M1.now, at' := 0, pos := ByteArray.empty, past := false, phase := 1 } rfl ⟨rfl, rfl, rfl, rfl⟩)
        have HE6 : Hid (ExtB lo b g g3 w w6) := hid (by rw [← hw6]; exact ((((HE3.out.trans (ExtB.set 8 _)).trans (ExtB.set 22 _)).trans (ExtB.set 9 _)).trans (ExtB.set 10 _)).trans (ExtB.set 7 _)); have HF6 := hid hf6; have c23 := H6.out.box.c 23 rfl; rw [H6.out.prt.2.1] at c23; have hl := H6.out.box.lt; clear hw6 hf6 H3 HE3 TC TN c0 c7 c8 c9 c10 c22 f7 f8 f9 f10 f22; go_upto_region 24 with fail; go_loopw [138] (fun v138 wr => ∃ (k : Nat) (ps' : List qas), k ≤ d.ps.length ∧ v138 = .int .i64 k ∧ ps'.length = d.ps.length ∧ WSt g3 wr lo a P M1 b t ty f6 { d with ps := ps' } ∧ ExtB lo b g g3 w wr) (fun v138 _ => d.ps.length - (intOf v138).toNat)
        case atStart => exact ⟨0, d.ps, Nat.zero_le _, rfl, rfl, H6.out, HE6.out⟩
        case round =>
         obtain ⟨k, ps7, hkl, rfl, hp7, h7, e7⟩ := hrel; have HP7 := hid hp7; have H7 := hid h7; have HE7 := hid e7; by_cases hlt : k < d.ps.length
         · have hk7 : k < ps7.length := by omega
           have hk1000 : k ≤ 1000 := by have := HB3.out; omega
           have i1 : (0 : Int) ≤ (k : Int) := by omega
           have i2 : (k : Int) < (d.ps.length : Int) := by omega
           obtain ⟨pb, po, hpA⟩ : ∃ pb po, f6.pA = some ⟨pb, po, none⟩ := by
            rcases h7.prt.1.arr qas.enc_len with h0 | ⟨pb, po, h1, _⟩
            · simp at h0; rw [h0] at hk7; simp at hk7
            · exact ⟨pb, po, h1⟩
           have c23 := h7.box.c 23 rfl; rw [h7.prt.2.1] at c23; have e23 : wr.cell? ⟨b, 23, none⟩ = some (.slice (some ⟨pb, po, none⟩) d.ps.length f6.pc) := by rw [← hp7, ← hpA]; exact c23
           obtain ⟨hpl, hplo, hpb, hpc, hpf⟩ := h7.part hpA hk7; obtain ⟨x, hx⟩ : ∃ x, x = ps7[k] := ⟨_, rfl⟩; have r0 : wr.cell? ⟨pb, po + k * 8, none⟩ = some (.bool x.had) := by rw [hx]; exact hpc 0 _ rfl
           have r1 : wr.cell? ⟨pb, po + k * 8 + 1, none⟩ = some (.string x.old.key) := by rw [hx]; exact hpc 1 _ rfl
           have r2 : wr.cell? ⟨pb, po + k * 8 + 1 + 1, none⟩ = some (.int .u64 (x.old.id : Int)) := by rw [hx]; exact hpc 2 _ rfl
           have r3 : wr.cell? ⟨pb, po + k * 8 + 1 + 2, none⟩ = some (.int .u64 (x.old.ver : Int)) := by rw [hx]; exact hpc 3 _ rfl
           have r4 : wr.cell? ⟨pb, po + k * 8 + 1 + 3, none⟩ = some (.int .i64 x.old.line) := by rw [hx]; exact hpc 4 _ rfl
           have r5 : wr.cell? ⟨pb, po + k * 8 + 1 + 4, none⟩ = some (.int .i64 x.old.cls) := by rw [hx]; exact hpc 5 _ rfl
           have g0 := hpf (po + k * 8); have g1 := hpf (po + k * 8 + 1); have g2 := hpf (po + k * 8 + 1 + 1); have g3' := hpf (po + k * 8 + 1 + 2); have g4 := hpf (po + k * 8 + 1 + 3); have g5 := hpf (po + k * 8 + 1 + 4); have hl := h7.box.lt; have hsf := qjt (l := ps7) hk7 hx.symm; have HSP := hid (WSt.setHit (d := { d with ps := ps7 }) (x := x) (by rw [show ({ d with ps := ps7 } : FrD).ps.set k x = ps7 from hsf]; exact h7) hpA hk7 false qak); clear h7 e7 hpc hpf c23 hp7 hpA H7 hx hsf; go_wp2_with fail; go_region; generalize hw8 : World.setCell _ _ _ = w8; have h8 : WSt g3 w8 lo a P M1 b t ty f6 { d with ps := ps7.set k { x with had := false, old := qak } } := by rw [← hw8]; exact HSP.out.1
           have e8 := HE7.out.trans (show ExtB lo b g3 g3 wr w8 by rw [← hw8]; exact HSP.out.2); have HH8 := hid h8.drew; have HE8 := hid (e8.trans (ExtB.below (Below.refl _ _).drew)); clear hw8 HSP h8 e8 r0 r1 r2 r3 r4 r5 g0 g1 g2 g3' g4 g5 e23 HE7; go_wp2_with fail; exact ⟨⟨k + 1, _, by omega, by go_num, by rw [List.length_set]; exact HP7.out, HH8.out, HE8.out⟩, by simp [intOf]; omega⟩
         · obtain rfl : k = d.ps.length := by omega
           clear hkl hlt h7 e7 hp7; go_wp2_with fail; refine bodyPost_ret (v := .tuple #[]) (by simp [results, results204]) rfl ⟨rfl, _, _, _, ⟨8, M1, HPR.out, .inr (.inl ⟨rfl, rfl, ps7, HP7.out, HF6.out, rfl⟩)⟩, _, H7.out, HE7.out⟩
      · have hb8 : (code == 8) = false := by rw [beq_eq_false_iff_ne]; exact h8
        have H8 := hid h8; have TB := hid (qg1 H3.out (by rw [HB3.out.1]; exact Nat.le_refl _) HB3.out.2 qAw); clear h8; go_wp2_with fail; refine TB.out.mono ?_; rintro r w5 ⟨rfl, M5, f5, d5, ⟨rfl, S5, ps5, hS, rfl, hps, rfl⟩, g5, h5, e5⟩; have HS := hid hS; have HPS := hid hps; have HE5 := hid (HE3.out.trans e5); have hl := h5.box.lt; have TF := hid (qcb h5 code); clear hS hps h5 e5 TB H3 HE3; go_wp2_with fail; refine TF.out.mono ?_; rintro e w6 ⟨rfl, hto⟩; have HTO := hid hto; clear hto TF; go_wp2_with fail; exact bodyPost_ret (v := .tuple #[]) (by simp [results, results204]) rfl ⟨rfl, _, _, _, ⟨code, M1, HPR.out, .inr (.inr ⟨H0.out, H8.out, rfl, S5, ps5, HS.out, rfl, HPS.out, rfl⟩)⟩, WTo.trans HE5.out HTO.out⟩
end
end Go.Proofs.YtecikkjbnkhhkaaGreat
