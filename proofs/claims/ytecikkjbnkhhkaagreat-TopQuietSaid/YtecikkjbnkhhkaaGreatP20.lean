/- A part of the walk. -/
import Derived.Test.YtecikkjbnkhhkaaGreatP18
import Derived.Test.YtecikkjbnkhhkaaGreatP15
namespace Go.Proofs.YtecikkjbnkhhkaaGreat
open _root_.Go.Proofs.Tryz
set_option maxHeartbeats 4000000
set_option maxRecDepth 100000
section
open Go.RowKit
section
variable {g : Own8} {w : World} {lo a b t : Nat} {P : qag} {M : qa4} {ty : TypeId} {f : qa5} {d : FrD}
def quf (lo a : Nat) (P : qag) (M : qa4) (b t : Nat) (ty : TypeId) (f : qa5) (d : FrD) (now : List UInt8) (pc : Nat) (last : Bool) (g : Own8) (w : World) (r : Ending) (w' : World) : Prop :=
 ∃ A' c', r = .returned (.bool last) ∧ WTo lo a P b t ty g w M { f with bA := A', bn := d.bs.length + now.length, bc := c', piece := ((pc + 1 : Nat) : Int) } { d with bs := d.bs ++ now } w'
theorem qm0 (h : WSt g w lo a P M b t ty f d) (ol pc : Nat) (hol : f.old.line = (ol : Int)) (hpc : f.piece = (pc : Int)) (hi : ol + pc < M.D.length) (hb : d.bs.length ≤ 1000) (hlo : lo ≤ w.heap.size) : Calls prog 242 #[.pointer (some ⟨a, 0, none⟩), .pointer (some ⟨b, 2, none⟩)] w (quf lo a P M b t ty f d M.D[ol + pc].now pc (decide (pc + 1 = qa9 f.old.cls)) g w) := by
 obtain ⟨i, hi0⟩ : ∃ i, i = ol + pc := ⟨_, rfl⟩; have hi' : i < M.D.length := by omega
 have hD : M.D[ol + pc].now = M.D[i].now := by subst hi0; rfl
 rw [hD]; have hln := M.D[i].hn; have TL := fun W (hW : Below w.heap.size w W) => qow W 0 P.dp P.dc M.D (h.ar.below hW).dev.2.1 i hi'
 generalize M.D[i].now = now at *; have hlen : M.D.length ≤ 258 := h.ar.dev.2.1.len.2; obtain ⟨p1, hp1⟩ : ∃ x, x = pc + 1 := ⟨_, rfl⟩; have hw1 : IntKind.i64.wrap ((ol : Int) + (pc : Int)) = (i : Int) := by rw [Go.IntWalk.i64_in _ (by omega)]; omega
 have hw2 : IntKind.i64.wrap ((pc : Int) + 1) = (p1 : Int) := by rw [Go.IntWalk.i64_in _ (by omega)]; omega
 have hv : decide (pc + 1 = qa9 f.old.cls) = ((p1 : Int) == (qa9 f.old.cls : Int)) := by rw [Bool.eq_iff_iff]; simp; omega
 rw [hv]; have H := hid h; have c16 := h.box.c 16 rfl; have c20 := h.box.c 20 rfl; rw [hol] at c16; rw [hpc] at c20; have hl := h.box.lt; have TD := hid (fun W (hW : Below w.heap.size w W) => qek (h.below hW).ar); have HTL := hid TL; have HLN := hid hln; have HP1 := hid hp1; have HPC := hid hpc; clear h hv hD TL hi hi0 hi' hln hp1 hol hpc; go_enter func242, ntmps242; go_upto_region 1 with fail; go_cut [5, 6] (fun v5 v6 wx => ∃ A2 c2, v5 = .slice A2 64 c2 ∧ v6 = .int .i64 0 ∧ Own byE 5 1 wx w.heap.size A2 c2 now ∧ Below w.heap.size w wx)
 case first =>
  go_region_with (first | (go_at_call 32; refine (TD.out _ ?_).mono ?_; exact (by with_reducible repeat (first | exact Below.refl _ _ | assumption | refine Below.drew ?_ | refine qa1 ?_ _ | refine Below.alloc ?_ (by first | omega | simp <;> omega) _ | refine Below.setCell ?_ (by first | omega | simp <;> omega) _)); rintro e w1 ⟨rfl, rfl⟩) | (go_at_call 87; refine (HTL.out _ ?_).mono ?_; exact (by with_reducible repeat (first | exact Below.refl _ _ | assumption | refine Below.drew ?_ | refine qa1 ?_ _ | refine Below.alloc ?_ (by first | omega | simp <;> omega) _ | refine Below.setCell ?_ (by first | omega | simp <;> omega) _)); rintro e w2 ⟨A2, c2, rfl, hown2, hb2⟩; have HO2 := hid hown2; have HB2 := hid hb2; clear hown2 hb2)); all_goals
   go_wp2_with fail; go_meet; exact ⟨A2, c2, rfl, rfl, HO2.out.lower (Nat.le_refl _), (show Below w.heap.size w _ from Below.trans (by with_reducible repeat (first | exact Below.refl _ _ | assumption | refine Below.drew ?_ | refine qa1 ?_ _ | refine Below.alloc ?_ (by first | omega | simp <;> omega) _ | refine Below.setCell ?_ (by first | omega | simp <;> omega) _)) (HB2.out.mono (Nat.le_refl _)))⟩
 obtain ⟨A2, c2, rfl, rfl, hown2, hb2⟩ := hcut; obtain ⟨w2, hw2⟩ : ∃ x, x = wc := ⟨_, rfl⟩; subst hw2; have h2 := H.out.below hb2; have H2 := hid h2; have HO2 := hid hown2; have HB2 := hid hb2; have c21 := h2.box.c 21 rfl; have hl2 := h2.box.lt; have HL2 := hid (show lo ≤ w2.heap.size by have := hb2.size; omega); rw [h2.byt.2.1] at c21; clear HTL TD hown2 hb2 h2 c16 c20 hl H; go_wp2_with (at_builtin; refine qdw (l := d.bs) (m := now) (A := f.bA) (c := f.bc) (lo := lo) _ rfl (.tmp 27) (.tmp 28) rfl (by simp [Act.eval]) H2.out.byt.1 (A2 := A2) c2 (by rw [HLN.out]; simp [Act.eval]) (HO2.out.arr qbn) (by rw [HLN.out]; omega) HL2.out ?_; intro A3 c3 w3 hown3 hgr3 hloc3; have b3 : qbq w3 b a t ty f := (hgr3.block b H2.out.box.lt (fun e => H2.out.byt.1.notBox H2.out.box H2.out.hty.ne.1 e)).trans H2.out.box; have f21 := b3.fr 21; have f20 := b3.fr 20; have hl3 := b3.lt; have c20 := b3.c 20 (v := .int .i64 (pc : Int)) (by rw [← HPC.out]; rfl); have c21w := b3.c 21 rfl); obtain ⟨h4, e4⟩ := H2.out.newBytes (n' := d.bs.length + now.length) hgr3 hown3 (by rw [List.length_append]) hloc3; have H4 := hid h4; have HE4 := hid e4; generalize World.setCell w3 _ _ = w4 at *; clear h4 e4 b3 hgr3 hown3 hloc3 c21 c21w f21 hl2 hl3 H2 HO2 c20; have H5 := hid (H4.out.set 20 (.int .i64 (p1 : Int)) { f with bA := A3, bn := d.bs.length + now.length, bc := c3, piece := (p1 : Int) } rfl ⟨rfl, rfl, rfl, rfl⟩); have HE5 := hid (HE4.out.trans (ExtB.set (lo := lo) 20 (.int .i64 (p1 : Int)))); generalize World.setCell w4 _ _ = w5 at *; have c20 := H5.out.box.c 20 rfl; have c17 := H5.out.box.c 17 rfl; have hl5 := H5.out.box.lt; have TS := fun W => qaw f.old.cls W
 clear f20; go_quiet (exact Calls.quiet_of_same (TS _)); go_wp2_with fail; go_ret; have hsz := HB2.out; exact ⟨A3, c3, rfl, g, by have := HP1.out; subst this; exact H5.out.drewN _, (ExtB.below hsz).trans (HE5.out.trans (ExtB.below (qa1 (Below.refl _ _) _)))⟩
end
end
section
open Go.RowKit
section
variable {g : Own8} {w : World} {lo a b t : Nat} {P : qag} {M : qa4} {ty : TypeId} {f : qa5} {d : FrD}
def valB (r : Option BlkC) (old : qa3) (kind : Int) : ByteArray × Bool := match r with
 | none => (ByteArray.empty, false)
 | some x => (x.val, (((x.kind == kind && ((x.id : Int) == (old.id : Int))) && ((x.ver : Int) == (old.ver : Int))) && (x.key.toList == old.key.toList)))
def qxk (lo a : Nat) (P : qag) (M : qa4) (b t : Nat) (ty : TypeId) (f : qa5) (d : FrD) (v : ByteArray × Bool) (g : Own8) (w : World) (r : Ending) (w' : World) : Prop :=
 r = .returned (.tuple #[.string v.1, .bool v.2]) ∧ WTo lo a P b t ty g w M { f with bA := none, bn := 0, bc := 0 } { d with bs := [] } w'
theorem WSt.noBytes (h : WSt g w lo a P M b t ty f d) : WSt g (w.setCell ⟨b, 21, none⟩ (.slice none 0 0)) lo a P M b t ty { f with bA := none, bn := 0, bc := 0 } { d with bs := [] } := by
 have hne := h.hty.ne; have hk : ∀ j, j ≠ b → (w.setCell ⟨b, 21, none⟩ (.slice none 0 0)).heap[j]? = w.heap[j]? := fun j hj => Below.heap_setCell _ _ _ _ hj
 have hz : w.heap.size ≤ (w.setCell ⟨b, 21, none⟩ (.slice none 0 0)).heap.size := by rw [World.size_setCell]; exact Nat.le_refl _
 exact ⟨h.ar.set0 h.gb 21 _, h.box.set 21 _ _ rfl, h.gb, h.hty, h.grp.keep hz (fun j _ _ hj _ => hk j hj) fun _ _ => rfl, RowG.nil,
  h.prt.keep (fun j _ _ hr => hk j fun e => h.prt.1.notBox h.box hne.2.1 (e ▸ hr)) fun _ _ => rfl,
  h.hit.keep (fun j _ _ hr => hk j fun e => h.hit.1.notBox h.box hne.2.2 (e ▸ hr)) fun _ _ => rfl⟩
theorem qj5 (h : WSt g w lo a P M b t ty f d) (kind : Int) (hb : d.bs.length ≤ 1000000) : Calls prog 243 #[.pointer (some ⟨b, 2, none⟩), .int .i64 kind] w (qxk lo a P M b t ty f d (valB (decB d.bs) f.old kind) g w) := by
 have H := hid h; have c21 := h.box.c 21 rfl; rw [h.byt.2.1] at c21; have hl := h.box.lt; have TD := hid (qi0 d.bs f.bA f.bc w (h.byt.1.arr qbn) hb h.byt.1.len h.byt.1.max); generalize hr : decB d.bs = r at *; clear h hb hr; go_enter func243, ntmps243; go_wp2_with fail; refine TD.out.mono ?_; rintro e w1 ⟨rfl, hb1⟩; have h1 := H.out.below hb1; have HB1 := hid hb1; obtain ⟨x, ok, hx⟩ : ∃ (x : BlkC) (ok : Bool), decV r = .tuple #[x.v, .bool ok] ∧ valB r f.old kind = (x.val, ok && (((x.kind == kind && ((x.id : Int) == (f.old.id : Int))) && ((x.ver : Int) == (f.old.ver : Int))) && (x.key.toList == f.old.key.toList))) := by
  cases r with
  | none => exact ⟨blk0, false, rfl, rfl⟩
  | some x => exact ⟨x, true, rfl, rfl⟩
 rw [hx.1]; have HV0 := hid hx.2; have HXV := hid (show x.v = .agg #[.int .i64 x.cls, .int .i64 x.kind, .int .u64 (x.id : Int), .int .u64 (x.ver : Int), .int .u64 (x.ep : Int), .string x.key, .string x.val] from rfl); rw [HXV.out]; clear hx hb1 TD c21 hl; have H1 := hid h1; have c21 := h1.box.c 21 rfl; have f21 := h1.box.fr 21; have hl1 := h1.box.lt; clear h1 H; go_wp2_with fail; obtain ⟨w2, hw2⟩ : ∃ w2, w2 = w1.setCell ⟨b, 21, none⟩ (.slice none 0 0) := ⟨_, rfl⟩; rw [← hw2]; have H2 := hid (show WSt g w2 lo a P M b t ty { f with bA := none, bn := 0, bc := 0 } { d with bs := [] } by rw [hw2]; exact H1.out.noBytes); have HE2 := hid (show ExtB lo b g g w w2 by rw [hw2]; exact (ExtB.below HB1.out).trans (ExtB.set _ _)); have hs2 : w2.heap.size = w1.heap.size := by rw [hw2, World.size_setCell]
 rw [← hs2]; generalize hw3 : World.alloc w2 _ = w3; have b3 : Below w2.heap.size w2 w3 := by rw [← hw3]; exact (Below.refl _ _).alloc (Nat.le_refl _) _
 have R3 : w3.heap[w2.heap.size]? = some (.cells x.enc.toArray 203 (0, 0)) := by rw [← hw3]; exact (qa2 _ _ _).trans (if_pos rfl)
 have H3 := hid (H2.out.below b3); have HE3 := hid (HE2.out.trans (ExtB.below b3)); obtain ⟨y0, y1, y2, y3, y4, y5, y6⟩ := BlkC.cells R3; have c13 := H3.out.box.c 13 rfl; have c14 := H3.out.box.c 14 rfl; have c15 := H3.out.box.c 15 rfl; have hlb := H3.out.box.lt; have hlx := qa0 R3; have HV := HV0; clear hw2 hs2 hw3 b3 R3 c21 f21 hl1 H1 H2 HE2 HB1 HXV HV0 y0 y4; cases ok with
 | false => (go_quiet (fail); go_wp2_with fail; go_ret2; exact ⟨by rw [HV.out]; rfl, g, H3.out.drewN _, HE3.out.trans (ExtB.below (qa1 (Below.refl _ _) _))⟩)
 | true =>
  cases h1 : (x.kind == kind) with
  | false => rw [h1] at HV; (go_quiet (fail); go_wp2_with fail; go_ret2; exact ⟨by rw [HV.out]; rfl, g, H3.out.drewN _, HE3.out.trans (ExtB.below (qa1 (Below.refl _ _) _))⟩)
  | true =>
   cases h2 : ((x.id : Int) == (f.old.id : Int)) with
   | false => rw [h1, h2] at HV; (go_quiet (fail); go_wp2_with fail; go_ret2; exact ⟨by rw [HV.out]; rfl, g, H3.out.drewN _, HE3.out.trans (ExtB.below (qa1 (Below.refl _ _) _))⟩)
   | true =>
    cases h3 : ((x.ver : Int) == (f.old.ver : Int)) with
    | false => rw [h1, h2, h3] at HV; (go_quiet (fail); go_wp2_with fail; go_ret2; exact ⟨by rw [HV.out]; rfl, g, H3.out.drewN _, HE3.out.trans (ExtB.below (qa1 (Below.refl _ _) _))⟩)
    | true => 
     cases h4 : (x.key.toList == f.old.key.toList) with
     | false => rw [h1, h2, h3, h4] at HV; (go_quiet (fail); go_wp2_with fail; go_ret2; exact ⟨by rw [HV.out]; rfl, g, H3.out.drewN _, HE3.out.trans (ExtB.below (qa1 (Below.refl _ _) _))⟩)
     | true => rw [h1, h2, h3, h4] at HV; (go_quiet (fail); go_wp2_with fail; go_ret2; exact ⟨by rw [HV.out]; rfl, g, H3.out.drewN _, HE3.out.trans (ExtB.below (qa1 (Below.refl _ _) _))⟩)
end
end
end Go.Proofs.YtecikkjbnkhhkaaGreat
