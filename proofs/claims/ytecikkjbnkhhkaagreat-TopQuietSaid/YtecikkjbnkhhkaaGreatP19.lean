/- A part of the walk. -/
import Derived.Test.YtecikkjbnkhhkaaGreatP17
import Derived.Lib.BufferRead
import Derived.Lib.SlBytesRow
import Derived.Shelf.SlSortCmp.NoneTotal
namespace Go.Proofs.YtecikkjbnkhhkaaGreat
open _root_.Go.Proofs.Tryz
set_option maxHeartbeats 2000000
set_option maxRecDepth 100000
section
open Go.RowKit
structure ChgC where
 kind : Int
 key : ByteArray
 val : ByteArray
 had : Bool
 old : qa3
 line : Int
 cls : Int
def ChgC.enc (x : ChgC) : List Value := [.int .i64 x.kind, .string x.key, .string x.val, .bool x.had, .string x.old.key, .int .u64 (x.old.id : Int), .int .u64 (x.old.ver : Int), .int .i64 x.old.line, .int .i64 x.old.cls, .int .i64 x.line, .int .i64 x.cls]
theorem ChgC.enc_len (x : ChgC) : x.enc.length = 11 := rfl
theorem ChgC.enc_one (x : ChgC) : ∀ u ∈ x.enc, u.oneCell' = true := by
 intro u hu; simp only [ChgC.enc, List.mem_cons, List.not_mem_nil, or_false] at hu; rcases hu with rfl | rfl | rfl | rfl | rfl | rfl | rfl | rfl | rfl | rfl | rfl <;> rfl
def ChgC.v (x : ChgC) : Value := .agg x.enc.toArray
def qcf (x : ChgC) : Bool := x.kind == 2 || x.kind == 3
def qbv (x : ChgC) : Bool := x.kind != 3 || x.had
theorem qdf (x : ChgC) (w : World) : Calls prog 338 #[x.v] w fun e w' => e = .returned (.bool (qcf x)) ∧ Below w.heap.size w w' := by
 obtain ⟨kind, key, val, had, old, line, cls⟩ := x; unfold ChgC.v ChgC.enc; go_enter func338, ntmps338; go_wp2; all_goals (go_ret; exact ⟨qc9 (by simp [qcf, *]), (by repeat (first | exact Below.refl _ _ | assumption | refine Below.drew ?_ | refine qa1 ?_ _ | refine Below.alloc ?_ (by first | omega | simp <;> omega) _ | refine Below.setCell ?_ (by first | omega | simp <;> omega) _))⟩)
theorem qf4 (x : ChgC) (w : World) : Calls prog 308 #[x.v] w fun e w' => e = .returned (.bool (qbv x)) ∧ Below w.heap.size w w' := by
 obtain ⟨kind, key, val, had, old, line, cls⟩ := x; unfold ChgC.v ChgC.enc; go_enter func308, ntmps308; go_wp2; all_goals (go_ret; exact ⟨qc9 (by simp [qbv, *]), (by repeat (first | exact Below.refl _ _ | assumption | refine Below.drew ?_ | refine qa1 ?_ _ | refine Below.alloc ?_ (by first | omega | simp <;> omega) _ | refine Below.setCell ?_ (by first | omega | simp <;> omega) _))⟩)
def qca (x : ChgC) (id ver e : Nat) : BlkC :=
 if x.kind = 2 then ⟨x.cls, 1, id, ver, e, x.key, x.val⟩ else if x.kind = 4 then ⟨x.cls, 2, id, ver, e, ByteArray.empty, x.val⟩ else ⟨0, 3, id, ver, e, ByteArray.empty, ByteArray.empty⟩
theorem qoz (x : ChgC) (id ver e : Nat) (w : World) : Calls prog 343 #[x.v, .int .u64 (id : Int), .int .u64 (ver : Int), .int .u64 (e : Int)] w fun r w' => r = .returned (qca x id ver e).v ∧ Below w.heap.size w w' := by
 obtain ⟨kind, key, val, had, old, line, cls⟩ := x; unfold ChgC.v ChgC.enc; by_cases h2 : kind = 2
 · have hl : qca ⟨kind, key, val, had, old, line, cls⟩ id ver e = ⟨cls, 1, id, ver, e, key, val⟩ := if_pos h2
   rw [hl, h2]; clear hl h2; go_enter func343, ntmps343; go_upto_region 5 with fail; go_region; all_goals
    go_wp2_with fail; refine bodyPost_ret (v := (⟨cls, 1, id, ver, e, key, val⟩ : BlkC).v) (by simp [results, results343, go_sem, BlkC.v, BlkC.enc]) rfl ⟨rfl, (by repeat (first | exact Below.refl _ _ | assumption | refine Below.drew ?_ | refine qa1 ?_ _ | refine Below.alloc ?_ (by first | omega | simp <;> omega) _ | refine Below.setCell ?_ (by first | omega | simp <;> omega) _))⟩
 by_cases h4 : kind = 4
 · have hl : qca ⟨kind, key, val, had, old, line, cls⟩ id ver e = ⟨cls, 2, id, ver, e, ByteArray.empty, val⟩ := by rw [qca, if_neg h2, if_pos h4]
   rw [hl, h4]; clear hl h2 h4; go_enter func343, ntmps343; go_upto_region 7 with fail; go_region; all_goals
    go_wp2_with fail; refine bodyPost_ret (v := (⟨cls, 2, id, ver, e, ByteArray.empty, val⟩ : BlkC).v) (by simp [results, results343, go_sem, BlkC.v, BlkC.enc]; rfl) rfl ⟨rfl, (by repeat (first | exact Below.refl _ _ | assumption | refine Below.drew ?_ | refine qa1 ?_ _ | refine Below.alloc ?_ (by first | omega | simp <;> omega) _ | refine Below.setCell ?_ (by first | omega | simp <;> omega) _))⟩
 · have hl : qca ⟨kind, key, val, had, old, line, cls⟩ id ver e = ⟨0, 3, id, ver, e, ByteArray.empty, ByteArray.empty⟩ := by rw [qca, if_neg h2, if_neg h4]
   rw [hl]; clear hl; go_enter func343, ntmps343; go_wp2_with fail; refine bodyPost_ret (v := (⟨0, 3, id, ver, e, ByteArray.empty, ByteArray.empty⟩ : BlkC).v) (by simp [results, results343, go_sem, BlkC.v, BlkC.enc]; rfl) rfl ⟨rfl, (by repeat (first | exact Below.refl _ _ | assumption | refine Below.drew ?_ | refine qa1 ?_ _ | refine Below.alloc ?_ (by first | omega | simp <;> omega) _ | refine Below.setCell ?_ (by first | omega | simp <;> omega) _))⟩
section
variable {g : Own8} {w : World} {a : Nat} {P : qag} {M : qa4}
theorem qnb (h : qa6 g w a P M) : Calls prog 342 #[.pointer (some ⟨a, 0, none⟩)] w fun e w' => e = .returned (.tuple #[.int .u64 (M.id : Int), .int .u64 (M.ver : Int)]) ∧ ∃ n, w' = w.drewN n := by
 have q8 := h.cells.2.2.2.2.2.2.2.2.1; have q9 := h.cells.2.2.2.2.2.2.2.2.2.1; have hl := qa0 h.box.1; clear h; go_enter func342, ntmps342; go_upto_region 3 with fail; have L8 := fun q => qe7 a 8 (M.id : Int) (w.drewN q) q8 hl
 have L9 := fun q => qe7 a 9 (M.ver : Int) (w.drewN q) q9 hl
 go_quiet (first | exact Calls.quiet_of_same (L8 _) | exact Calls.quiet_of_same (L9 _)); go_wp2_with fail; go_ret2; exact ⟨rfl, _, rfl⟩
end
end
section
open Go.RowKit
def qi9 (a t : Nat) (f : qa5) : List Value := [.pointer (some ⟨a, 0, none⟩), .int .i64 (t : Int)] ++ f.enc
def qbq (w : World) (b a t : Nat) (ty : TypeId) (f : qa5) : Prop := w.heap[b]? = some (.cells (qi9 a t f).toArray ty (0, 0))
section
variable {w : World} {b a t : Nat} {ty : TypeId} {f : qa5}
theorem qbq.lt (h : qbq w b a t ty f) : b < w.heap.size := qa0 h
theorem qbq.fr (h : qbq w b a t ty f) (j : Nat) : w.frozen? ⟨b, j, none⟩ = false := frozen_of_row w b j _ _ h
theorem qbq.c (h : qbq w b a t ty f) (j : Nat) {v : Value} (hv : (qi9 a t f)[j]? = some v) : w.cell? ⟨b, j, none⟩ = some v :=
 (cell_of_row w b j _ _ _ h).trans (by rw [List.getElem?_toArray]; exact hv)
theorem qbq.set (h : qbq w b a t ty f) (k : Nat) (v : Value) (f' : qa5) (he : (qi9 a t f).set k v = qi9 a t f') : qbq (w.setCell ⟨b, k, none⟩ v) b a t ty f' := by
 have q := heap_setCell_same w b k _ _ v h; unfold qbq; rw [← he, ← List.setIfInBounds_toArray]; exact q
end
def SlG (g : Own8) {α : Type} (enc : α → List Value) (k : Nat) (w : World) (lo b : Nat) (A : Option Addr) (n c : Nat) (l : List α) : Prop := Sl enc k w w.heap.size A n c l ∧ (l = [] ∨ ∃ x off, A = some ⟨x, off, none⟩ ∧ g x = 0 ∧ x ≠ b ∧ x < lo)
def RowG (g : Own8) {α : Type} (enc : α → List Value) (e : TypeId) (k : Nat) (w : World) (lo : Nat) (A : Option Addr) (n c : Nat) (l : List α) : Prop := Own enc e k w lo A c l ∧ n = l.length ∧ qc8 g 0 A c
section
variable {α : Type} {enc : α → List Value} {e : TypeId} {k lo b n c : Nat} {A : Option Addr} {l : List α} {g g' : Own8} {w w' : World}
theorem SlG.keep (h : SlG g enc k w lo b A n c l) (hs : w.heap.size ≤ w'.heap.size) (hb : ∀ j, j < w.heap.size → g j = 0 → j ≠ b → j < lo → w'.heap[j]? = w.heap[j]?) (hg : ∀ j, j < w.heap.size → g' j = g j) : SlG g' enc k w' lo b A n c l := by
 obtain ⟨⟨h1, h2, h3, h4⟩, h5⟩ := h; rcases h5 with h5 | ⟨x, off, rfl, h6, h7, h8⟩
 · subst h5
   exact ⟨⟨Arr.nil, h2, h3, h4⟩, .inl rfl⟩
 · rcases h1 with h1 | ⟨b', off', hA, hlt, hc⟩
   · subst h1
     exact ⟨⟨Arr.nil, h2, h3, h4⟩, .inl rfl⟩
   · cases hA
     refine ⟨⟨.inr ⟨x, off, rfl, by omega, fun i hi j u hu => ?_⟩, h2, h3, h4⟩, .inr ⟨x, off, rfl, (hg x hlt).trans h6, h7, h8⟩⟩; exact (World.cell?_of_block (w := w) (hb x hlt h6 h7 h8)).trans (hc i hi j u hu)
theorem RowG.keep (h : RowG g enc e k w lo A n c l) (hb : ∀ j, j < w.heap.size → g j = 0 → some j = qa8 A c → w'.heap[j]? = w.heap[j]?) (hg : ∀ j, j < w.heap.size → g' j = g j) : RowG g' enc e k w' lo A n c l := by
 obtain ⟨h1, h2, h3⟩ := h; have hr := qcg h1; refine ⟨h1.keep2 ?_, h2, fun x hx => (hg x (hr x hx)).trans (h3 x hx)⟩; by_cases hc : c = 0
 · exact .inl hc
 · refine .inr fun x off hA hlt => hb x hlt (h3 x ?_) ?_
   · rw [qa8, if_neg hc, hA]; rfl
   · rw [qa8, if_neg hc, hA]; rfl
theorem RowG.nil : RowG g enc e k w lo none 0 0 [] := ⟨Own.none_, rfl, fun x hx => by simp [qa8] at hx⟩
theorem SlG.nil : SlG g enc k w lo b none 0 0 [] := ⟨Sl.nil, .inl rfl⟩
end
structure FrD where
 gr : List qa7
 bs : List UInt8
 ps : List qas
 hs : List Bool
def qoe (ty : TypeId) : Prop := ty = 281 ∨ ty = 287 ∨ ty = 299
structure WSt (g : Own8) (w : World) (lo a : Nat) (P : qag) (M : qa4) (b t : Nat) (ty : TypeId) (f : qa5) (d : FrD) : Prop where
 ar : qa6 g w a P M
 box : qbq w b a t ty f
 gb : g b = 0
 hty : qoe ty
 grp : SlG g qa7.enc 5 w lo b f.call.gA f.call.gn f.call.gc d.gr
 byt : RowG g byE 5 1 w lo f.bA f.bn f.bc d.bs
 prt : RowG g qas.enc 330 8 w lo f.pA f.pn f.pc d.ps
 hit : RowG g bitE 4 1 w lo f.hA f.hn f.hc d.hs
structure ExtB (lo b : Nat) (g g' : Own8) (w w' : World) : Prop where
 old : ∀ j, j < w.heap.size → g' j = g j
 only : Only (fun j => 0 < g j ∨ lo ≤ j ∨ j = b) w w'
theorem ExtB.refl (lo b : Nat) (g : Own8) (w : World) : ExtB lo b g g w w := ⟨fun _ _ => rfl, Only.refl _ _⟩
theorem ExtB.of_ext {lo b : Nat} {g g' : Own8} {w w' : World} (h : Ext g g' w w') : ExtB lo b g g' w w' := ⟨h.old, h.only.mono fun _ => .inl⟩
theorem ExtB.trans {lo b : Nat} {g g1 g2 : Own8} {w w1 w2 : World} (h : ExtB lo b g g1 w w1) (k : ExtB lo b g1 g2 w1 w2) : ExtB lo b g g2 w w2 := by
 have hs := h.only.size; refine ⟨fun j hj => (k.old j (by omega)).trans (h.old j hj), ⟨k.only.os.trans h.only.os, k.only.tape.trans h.only.tape, k.only.output.trans h.only.output, Nat.le_trans hs k.only.size, fun j hj hn => ?_⟩⟩; exact (k.only.block j (by omega) (by rw [h.old j hj]; exact hn)).trans (h.only.block j hj hn)
theorem ExtB.below {lo b : Nat} {g : Own8} {w w' : World} (h : Below w.heap.size w w') : ExtB lo b g g w w' := .of_ext (Ext.below h)
theorem ExtB.set {lo b : Nat} {g : Own8} {w : World} (o : Nat) (v : Value) : ExtB lo b g g w (w.setCell ⟨b, o, none⟩ v) := ⟨fun _ _ => rfl, (Only.refl _ w).setCell _ _ (.inr (.inr rfl))⟩
theorem ExtB.sets {lo b : Nat} {g : Own8} {w : World} (o : Nat) (vs : List Value) : ExtB lo b g g w (w.setCells b o vs) := by
 have hs := qam b vs o w; exact ⟨fun _ _ => rfl, ⟨hs.1, hs.2.1, hs.2.2.1, by rw [hs.2.2.2]; exact Nat.le_refl _, fun j _ hn => qaa b vs o w j (fun h => hn (.inr (.inr h)))⟩⟩
theorem ExtB.grown {lo b : Nat} {g : Own8} {w w' : World} {row : Option Nat} (h : w.grownBy w' row) (hr : ∀ j, row = some j → lo ≤ j) : ExtB lo b g g w w' := ⟨fun _ _ => rfl, Only.grown h fun j hj => .inr (.inl (hr j hj))⟩
theorem ExtB.ext {lo b : Nat} {g0 g g' : Own8} {w0 w w' : World} (e : Ext g0 g w0 w) (h : ExtB lo b g g' w w') (hb : w0.heap.size ≤ b) (hlo : w0.heap.size ≤ lo) : Ext g0 g' w0 w' := by
 have hs := e.only.size; refine ⟨fun j hj => (h.old j (by omega)).trans (e.old j hj), ⟨h.only.os.trans e.only.os, h.only.tape.trans e.only.tape, h.only.output.trans e.only.output, Nat.le_trans hs h.only.size, fun j hj hn => ?_⟩⟩; exact (h.only.block j (by omega) (by rw [e.old j hj]; omega)).trans (e.only.block j hj hn)
def qyc (f f' : qa5) : Prop := (f'.call.gA, f'.call.gn, f'.call.gc) = (f.call.gA, f.call.gn, f.call.gc) ∧ (f'.bA, f'.bn, f'.bc) = (f.bA, f.bn, f.bc) ∧ (f'.pA, f'.pn, f'.pc) = (f.pA, f.pn, f.pc) ∧ (f'.hA, f'.hn, f'.hc) = (f.hA, f.hn, f.hc)
section
variable {g g' : Own8} {w w' : World} {lo a b t : Nat} {P : qag} {M M' : qa4} {ty : TypeId} {f f' : qa5} {d d' : FrD}
theorem qa6.set0 (h : qa6 g w a P M) (hb : g b = 0) (o : Nat) (v : Value) : qa6 g (w.setCell ⟨b, o, none⟩ v) a P M :=
 h.nobody ((Only.refl _ w).setCell _ _ (.inl hb))
theorem qa6.sets0 (h : qa6 g w a P M) (hb : g b = 0) (o : Nat) (vs : List Value) : qa6 g (w.setCells b o vs) a P M := by
 have hs := qam b vs o w; exact h.nobody ⟨hs.1, hs.2.1, hs.2.2.1, by rw [hs.2.2.2]; exact Nat.le_refl _, fun j _ hn => qaa b vs o w j (fun e => hn (.inl (e ▸ hb)))⟩
theorem qoe.ne (h : qoe ty) : 5 ≠ ty ∧ 330 ≠ ty ∧ 4 ≠ ty := by
 rcases h with rfl | rfl | rfl <;> decide
theorem WSt.ext (h : WSt g w lo a P M b t ty f d) (ar : qa6 g' w' a P M') (e : Ext g g' w w') : WSt g' w' lo a P M' b t ty f d :=
 ⟨ar, (e.nobody h.box.lt h.gb).trans h.box, (e.old b h.box.lt).trans h.gb, h.hty, h.grp.keep e.only.size (fun _j hj h0 _ _ => e.nobody hj h0) e.old,
  h.byt.keep (fun _j hj h0 _ => e.nobody hj h0) e.old, h.prt.keep (fun _j hj h0 _ => e.nobody hj h0) e.old, h.hit.keep (fun _j hj h0 _ => e.nobody hj h0) e.old⟩
theorem WSt.below (h : WSt g w lo a P M b t ty f d) (hb : Below w.heap.size w w') : WSt g w' lo a P M b t ty f d := h.ext (h.ar.below hb) (Ext.below hb)
theorem WSt.drewN (h : WSt g w lo a P M b t ty f d) (n : Nat) : WSt g (w.drewN n) lo a P M b t ty f d := h.below (qa1 (Below.refl _ _) n)
theorem WSt.drew (h : WSt g w lo a P M b t ty f d) : WSt g w.drew lo a P M b t ty f d := h.below (Below.refl _ _).drew
theorem WSt.sets (h : WSt g w lo a P M b t ty f d) (k : Nat) (vs : List Value) (f' : qa5) (hw : qbq (w.setCells b k vs) b a t ty f') (hs : qyc f f') : WSt g (w.setCells b k vs) lo a P M b t ty f' d := by
 obtain ⟨h1, h2, h3, h4⟩ := hs; simp only [Prod.mk.injEq] at h1 h2 h3 h4; have hne := h.hty.ne; have hk : ∀ j, j ≠ b → (w.setCells b k vs).heap[j]? = w.heap[j]? := fun j hj => qaa b vs k w j hj
 have hz := (qam b vs k w).2.2.2; refine ⟨h.ar.sets0 h.gb k vs, hw, h.gb, h.hty, ?_, ?_, ?_, ?_⟩
 · rw [h1.1, h1.2.1, h1.2.2]
   exact h.grp.keep (by rw [hz]; exact Nat.le_refl _) (fun j _ _ hj _ => hk j hj) fun _ _ => rfl
 · rw [h2.1, h2.2.1, h2.2.2]
   exact h.byt.keep (fun j _ _ hr => hk j fun e => h.byt.1.notBox h.box hne.1 (e ▸ hr)) fun _ _ => rfl
 · rw [h3.1, h3.2.1, h3.2.2]
   exact h.prt.keep (fun j _ _ hr => hk j fun e => h.prt.1.notBox h.box hne.2.1 (e ▸ hr)) fun _ _ => rfl
 · rw [h4.1, h4.2.1, h4.2.2]
   exact h.hit.keep (fun j _ _ hr => hk j fun e => h.hit.1.notBox h.box hne.2.2 (e ▸ hr)) fun _ _ => rfl
theorem WSt.set (h : WSt g w lo a P M b t ty f d) (k : Nat) (v : Value) (f' : qa5) (he : (qi9 a t f).set k v = qi9 a t f') (hs : qyc f f') : WSt g (w.setCell ⟨b, k, none⟩ v) lo a P M b t ty f' d :=
 h.sets k [v] f' (h.box.set k v f' he) hs
theorem qe4 {α : Type} {enc : α → List Value} {e : TypeId} {k lo : Nat} {l : List α} {A : Option Addr} {c : Nat} {w : World} (ho : Own enc e k w lo A c l) : ∀ j, qa8 A c = some j → lo ≤ j := fun b hb => by
 rcases ho.lt with h0 | ⟨b', off, hA, hlo, _⟩
 · rw [qa8, if_pos h0] at hb; cases hb
 · rw [qa8] at hb
   split at hb
   · cases hb
   · rw [hA] at hb; cases hb; exact hlo
theorem qef {α : Type} {enc : α → List Value} {e : TypeId} {k lo : Nat} {l : List α} {A : Option Addr} {c : Nat} {w : World} (ho : Own enc e k w lo A c l) {j : Nat} (hj : qa8 A c = some j) : ∃ cur, w.heap[j]? = some (.cells cur e (0, 0)) := by
 rcases ho.2.2 with h0 | ⟨b', off, cur, hA, _, hh, _⟩
 · rw [qa8, if_pos h0] at hj; cases hj
 · rw [qa8] at hj
   split at hj
   · cases hj
   · rw [hA] at hj; cases hj; exact ⟨cur, hh⟩
theorem WSt.newBytes (h : WSt g w lo a P M b t ty f d) {A' : Option Addr} {c' n' : Nat} {bs' : List UInt8} (hg : w.grownBy w' (qa8 f.bA f.bc)) (hown : Own byE 5 1 w' lo A' c' bs') (hn : n' = bs'.length) (hloc : A' = f.bA ∧ c' = f.bc ∨ ∃ x, A' = some ⟨x, 0, none⟩ ∧ w.heap.size ≤ x) :
 WSt g (w'.setCell ⟨b, 21, none⟩ (.slice A' n' c')) lo a P M b t ty { f with bA := A', bn := n', bc := c' } { d with bs := bs' } ∧ ExtB lo b g g w (w'.setCell ⟨b, 21, none⟩ (.slice A' n' c')) := by
 have hne := h.hty.ne; have hrl := qcg h.byt.1; have hrb : ∀ j, qa8 f.bA f.bc = some j → j ≠ b := fun j hj e => h.byt.1.notBox h.box hne.1 (by rw [← e]; exact hj.symm)
 have hk : ∀ j, j < w.heap.size → qa8 f.bA f.bc ≠ some j → w'.heap[j]? = w.heap[j]? := fun j hj hr => hg.block j hj (fun e => hr e.symm)
 have box1 : qbq w' b a t ty f := (hk b h.box.lt (fun e => hrb b e rfl)).trans h.box; have bs1 : qbq (w'.setCell ⟨b, 21, none⟩ (.slice A' n' c')) b a t ty { f with bA := A', bn := n', bc := c' } := box1.set 21 _ _ rfl; have ho : ∀ j, j < w.heap.size → qa8 f.bA f.bc ≠ some j → j ≠ b → (w'.setCell ⟨b, 21, none⟩ (.slice A' n' c')).heap[j]? = w.heap[j]? := fun j hj hr hb => (Below.heap_setCell _ _ _ _ hb).trans (hk j hj hr)
 have hz : w.heap.size ≤ (w'.setCell ⟨b, 21, none⟩ (.slice A' n' c')).heap.size := by rw [World.size_setCell]; exact hg.size
 have hAr : qa6 g (w'.setCell ⟨b, 21, none⟩ (.slice A' n' c')) a P M := h.ar.nobody (Only.setCell (Only.grown hg fun j hj => .inl (h.byt.2.2 j hj)) _ _ (.inl h.gb)); refine ⟨⟨hAr, bs1, h.gb, h.hty, ?_, ⟨?_, hn, ?_⟩, ?_, ?_⟩, (ExtB.grown hg (qe4 h.byt.1)).trans (ExtB.set _ _)⟩
 · exact h.grp.keep hz (fun j hj _ hb hlt => ho j hj (fun e => by have := qe4 h.byt.1 j e; omega) hb) fun _ _ => rfl
 · refine hown.keep2 ?_
   by_cases hc : c' = 0
   · exact .inl hc
   · refine .inr fun x off hA hxlt => Below.heap_setCell _ _ _ _ fun e => ?_
     have e' : x = b := e; rcases hloc with ⟨rfl, rfl⟩ | ⟨y, rfl, hy⟩
     · exact hrb x (by rw [qa8, if_neg hc, hA]; rfl) e'
     · cases hA
       have := h.box.lt; omega
 · intro x hx
   rcases hloc with ⟨rfl, rfl⟩ | ⟨y, rfl, hy⟩
   · exact h.byt.2.2 x hx
   · rw [qa8] at hx
     split at hx
     · cases hx
     · cases hx; exact h.ar.far y hy
 · exact h.prt.keep (fun j hj _ hr => ho j hj (fun e => by
    obtain ⟨cur, hc⟩ := qef h.byt.1 e
    exact h.prt.1.notBox hc (by decide) hr) fun e => h.prt.1.notBox h.box hne.2.1 (e ▸ hr)) fun _ _ => rfl
 · exact h.hit.keep (fun j hj _ hr => ho j hj (fun e => by
    obtain ⟨cur, hc⟩ := qef h.byt.1 e
    exact h.hit.1.notBox hc (by decide) hr) fun e => h.hit.1.notBox h.box hne.2.2 (e ▸ hr)) fun _ _ => rfl
theorem WSt.callIn (h : WSt g w lo a P M b t ty f d) : qbr w w.heap.size f.call d.gr := ⟨h.grp.1.1, h.grp.1.2.1, h.grp.1.2.2.1, h.grp.1.2.2.2⟩
end
def WTo (lo a : Nat) (P : qag) (b t : Nat) (ty : TypeId) (g : Own8) (w : World) (M' : qa4) (f' : qa5) (d' : FrD) (w' : World) : Prop := ∃ g', WSt g' w' lo a P M' b t ty f' d' ∧ ExtB lo b g g' w w'
theorem WTo.trans {lo a b t : Nat} {P : qag} {ty : TypeId} {g g1 : Own8} {w w1 w' : World} {M' : qa4} {f' : qa5} {d' : FrD} (e : ExtB lo b g g1 w w1) (h : WTo lo a P b t ty g1 w1 M' f' d' w') : WTo lo a P b t ty g w M' f' d' w' := by
 obtain ⟨g2, h1, h2⟩ := h; exact ⟨g2, h1, e.trans h2⟩
end
section
open Go.RowKit
structure qap where
 thread : Int
 call : qa7
 code : Int
 found : Bool
 vl : ByteArray
 hA : Option Addr
 hn : Nat
 hc : Nat
 aep : Nat
 began : Int
 ended : Int
def qap.enc (x : qap) : List Value := [.int .i64 x.thread, .int .i64 x.call.kind, .string x.call.key, .string x.call.val, .string x.call.tx, .slice x.call.gA x.call.gn x.call.gc, .int .i64 x.code, .bool x.found, .string x.vl, .slice none 0 0, .slice x.hA x.hn x.hc, .int .u64 (x.aep : Int), .int .i64 x.began, .int .i64 x.ended]
theorem qap.enc_len (x : qap) : x.enc.length = 14 := rfl
theorem qap.enc_one (x : qap) : ∀ u ∈ x.enc, u.oneCell' = true := by
 intro u hu; simp only [qap.enc, List.mem_cons, List.not_mem_nil, or_false] at hu; rcases hu with rfl | rfl | rfl | rfl | rfl | rfl | rfl | rfl | rfl | rfl | rfl | rfl | rfl | rfl <;> rfl
theorem qqt (w : World) : Calls prog 66 #[.slice none 0 0] w fun e w' => e = .returned (.slice none 0 0) ∧ w' = w := by
 have hnil := fun W : World => Lib.run_eql_slice_nil (P := prog) W 45 75 none 0 0 0 0 underlying45
 go_enter func66, ntmps66; go_wp2; go_ret; exact ⟨rfl, rfl⟩
theorem qsu : (prog.info? 330).map (fun i => (i.zero, i.size, i.bytes)) = some (some (.agg #[.bool false, .string ByteArray.empty, .int .u64 0, .int .u64 0, .int .i64 0, .int .i64 0, .int .i64 0, .int .i64 0]), 8, 72) := by kernel_rfl
theorem qxa {ops : Array Oper} {rest : List Oper} {o : Oper} {a : Act} {Q : Exit → Act → World → Prop} (w : World) (hgd : o.guard = none) (s x : Operand)
 (ho : o.op = .call { callee := .builtin .append, args := #[s, x], argTypes := #[87, 87] }) {lo : Nat} {A : Option Addr} {c : Nat} {l : List qas} (hs : a.eval s = .slice A l.length c) (own : Own qas.enc 330 8 w lo A c l)
 {B : Nat} {A2 : Option Addr} {m : List qas} (c2 : Nat) (hx : a.eval x = .slice A2 m.length c2) (arr : Arr qas.enc 8 w B A2 m) (hb : l.length + m.length ≤ 100000) (hlo : lo ≤ w.heap.size)
 (h : ∀ A' c' w', Own qas.enc 330 8 w' lo A' c' (l ++ m) → w.grownBy w' (qa8 A c) → (A' = A ∧ c' = c ∨ ∃ g, A' = some ⟨g, 0, none⟩ ∧ w.heap.size ≤ g) → wpList prog ops Q rest (a.put o.dst (.slice A' (l.length + m.length) c')) w') :
 wpList prog ops Q (o :: rest) a w := by
 obtain ⟨i0, hi, hz0, hz1, hz2⟩ := info_parts qsu; exact qar w hgd s x 87 ho i0 _ 72 underlying87 hi hz0 hz1 hz2 rfl (by decide) qas.enc_len qas.enc_one hs own c2 hx arr (by unfold maxLen; omega) (by omega) hlo h
theorem qqs (l : List qas) (A : Option Addr) (c : Nat) (w : World) (hA : Arr qas.enc 8 w w.heap.size A l) (hb : l.length ≤ 100000) :
 Calls prog 180 #[.slice A l.length c] w (qux qas.enc 330 8 l w) := by
 have HB := hid hb; clear hb; have hnil := fun W : World => Lib.run_eql_slice_nil (P := prog) W 87 330 A l.length c 0 0 underlying87
 cases A with
 | none =>
  go_enter func180, ntmps180; go_wp2; go_ret; have hl : l = [] := by
   rcases hA with h | ⟨b, off, h, _⟩
   · exact h
   · cases h
  subst hl; exact ⟨none, 0, rfl, Own.none_, Below.refl _ _⟩
 | some a =>
  go_enter func180, ntmps180; go_wp2_with (at_builtin; refine qxa (l := []) (m := l) _ rfl (.tmp 5) (.tmp 6) rfl rfl (Own.zero (lo := w.heap.size)) c rfl (hA.below ((Below.refl _ w).alloc (Nat.le_refl _) _)) (by simpa using HB.out) (by simp) ?_; intro A' c' w' hown hgr hloc); go_ret; refine ⟨A', c', by simp, by simpa using hown, ((Below.refl _ w).alloc (Nat.le_refl _) _).grown hgr (by simp) (fun k hk => ?_)⟩; simp [qa8] at hk
theorem qwe : (prog.info? 4).map (fun i => (i.zero, i.size, i.bytes)) = some (some (.bool false), 1, 1) := by kernel_rfl
theorem qo4 {ops : Array Oper} {rest : List Oper} {o : Oper} {a : Act} {Q : Exit → Act → World → Prop} (w : World) (hgd : o.guard = none) (s x : Operand)
 (ho : o.op = .call { callee := .builtin .append, args := #[s, x], argTypes := #[64, 64] }) {lo : Nat} {A : Option Addr} {c : Nat} {l : List Bool} (hs : a.eval s = .slice A l.length c) (own : Own bitE 4 1 w lo A c l)
 {B : Nat} {A2 : Option Addr} {m : List Bool} (c2 : Nat) (hx : a.eval x = .slice A2 m.length c2) (arr : Arr bitE 1 w B A2 m) (hb : l.length + m.length ≤ 100000) (hlo : lo ≤ w.heap.size)
 (h : ∀ A' c' w', Own bitE 4 1 w' lo A' c' (l ++ m) → w.grownBy w' (qa8 A c) → (A' = A ∧ c' = c ∨ ∃ g, A' = some ⟨g, 0, none⟩ ∧ w.heap.size ≤ g) → wpList prog ops Q rest (a.put o.dst (.slice A' (l.length + m.length) c')) w') :
 wpList prog ops Q (o :: rest) a w := by
 obtain ⟨i0, hi, hz0, hz1, hz2⟩ := info_parts qwe; exact qar w hgd s x 64 ho i0 _ 1 underlying64 hi hz0 hz1 hz2 rfl (by decide) qfd qx7 hs own c2 hx arr (by unfold maxLen; omega) (by omega) hlo h
theorem qtk (l : List Bool) (A : Option Addr) (c : Nat) (w : World) (hA : Arr bitE 1 w w.heap.size A l) (hb : l.length ≤ 100000) :
 Calls prog 67 #[.slice A l.length c] w (qux bitE 4 1 l w) := by
 have HB := hid hb; clear hb; have hnil := fun W : World => Lib.run_eql_slice_nil (P := prog) W 64 4 A l.length c 0 0 underlying64
 cases A with
 | none =>
  go_enter func67, ntmps67; go_wp2; go_ret; have hl : l = [] := by
   rcases hA with h | ⟨b, off, h, _⟩
   · exact h
   · cases h
  subst hl; exact ⟨none, 0, rfl, Own.none_, Below.refl _ _⟩
 | some a =>
  go_enter func67, ntmps67; go_wp2_with (at_builtin; refine qo4 (l := []) (m := l) _ rfl (.tmp 5) (.tmp 6) rfl rfl (Own.zero (lo := w.heap.size)) c rfl (hA.below ((Below.refl _ w).alloc (Nat.le_refl _) _)) (by simpa using HB.out) (by simp) ?_; intro A' c' w' hown hgr hloc); go_ret; refine ⟨A', c', by simp, by simpa using hown, ((Below.refl _ w).alloc (Nat.le_refl _) _).grown hgr (by simp) (fun k hk => ?_)⟩; simp [qa8] at hk
theorem qp3 : (prog.info? 70).map (fun i => (i.zero, i.size, i.bytes)) = some (some (.agg #[.int .i64 0, .string ByteArray.empty, .string ByteArray.empty, .int .u64 0, .int .u64 0, .int .u64 0, .int .i64 0]), 7, 72) := by kernel_rfl
theorem qj0 : (prog.info? 68).map (fun i => (i.zero, i.size, i.bytes)) = some (some (.agg #[.int .i64 0, .int .i64 0, .string ByteArray.empty, .string ByteArray.empty, .string ByteArray.empty, .slice none 0 0, .int .i64 0, .bool false, .string ByteArray.empty, .slice none 0 0, .slice none 0 0, .int .u64 0, .int .i64 0, .int .i64 0]), 14, 192) := by kernel_rfl
end
section
open Go.RowKit Go.Shelf Go.Sort
instance : Inhabited qa3 := ⟨qak⟩
theorem qly {l : List qa3} {t : Nat} (ht : t < l.length * 5) : (l.flatMap qa3.enc)[t]? = some ((flatK qa3.enc 5 l.toArray)[t]!) := by
 have hi : t / 5 < l.length := by omega
 have h := qb0 qa3.enc_len l (t / 5) hi (t % 5) (by omega); rw [show t / 5 * 5 + t % 5 = t by omega] at h; rw [h, get_flatK _ _ _ _ (by simpa using ht)]; have e : l.toArray[t / 5]! = l[t / 5] := by rw [getElem!_pos l.toArray (t / 5) (by simpa using hi)]; simp
 rw [e, getElem!_pos (l[t / 5].enc) (t % 5) (by rw [qa3.enc_len]; omega), List.getElem?_eq_getElem (by rw [qa3.enc_len]; omega)]
theorem qxd (x y : qa3) (W : World) : Calls prog 95 #[.agg #[.string x.key, .int .u64 (x.id : Int), .int .u64 (x.ver : Int), .int .i64 x.line, .int .i64 x.cls], .agg #[.string y.key, .int .u64 (y.id : Int), .int .u64 (y.ver : Int), .int .i64 y.line, .int .i64 y.cls]] W fun e w' => e = .returned (.int .i64 (cmpB x.key y.key)) ∧ ∃ q os', w' = grow (W.drewN q) os' := by
 go_enter func95, ntmps95; go_wp2_with (go_at_call 96; refine (qtj _ _ _).mono ?_; rintro e w' ⟨rfl, rfl⟩); go_ret; exact ⟨rfl, 0, _, by rw [alloc_eq_grow, alloc_eq_grow, grow_grow]; rfl⟩
theorem qw4 (x y : qa3) : ltOf (fun x y : qa3 => cmpB x.key y.key) x y = kl x.key y.key := by
 show decide (cmpB x.key y.key < 0) = kl x.key y.key
 rw [qhw]; cases h : kl x.key y.key with
 | true => simp
 | false => simp only [Bool.false_eq_true, if_false]; split <;> simp
theorem qve : SWO (ltOf fun x y : qa3 => cmpB x.key y.key) where
 irrefl x := by rw [qw4, qdh]
 trans x y z h1 h2 := by rw [qw4] at *; exact qeh h1 h2
 ntrans x y z h1 h2 := by
  rw [qw4] at *; cases h : kl x.key z.key with
  | false => rfl
  | true =>
   rcases qsq y.key x.key with h3 | h3 | h3
   · have := qeh h3 h; rw [h2] at this; cases this
   · rw [h3] at h2; rw [h2] at h; cases h
   · rw [h1] at h3; cases h3
def qud (lo : Nat) (A : Option Addr) (c : Nat) (l : List qa3) (w : World) (e : Ending) (w' : World) : Prop :=
 e = .returned (.tuple #[]) ∧ ∃ l', l'.Perm l ∧ l'.Pairwise (fun x y => kl y.key x.key = false) ∧ Own qa3.enc 85 5 w' lo A c l' ∧ Only (fun j => some j = qa8 A c) w w'
theorem qjr (l : List qa3) (A : Option Addr) (c lo : Nat) (w : World) (own : Own qa3.enc 85 5 w lo A c l) (hl : l.length ≤ 1000000) : Calls prog 94 #[.slice A l.length c, .func (.func 95) #[] #[]] w (qud lo A c l w) := by
 by_cases h0 : l.length = 0
 · have hn : l = [] := List.eq_nil_of_length_eq_zero h0
   subst hn; have h := AnyF.slices_SortFunc_none qA7 A c (.func (.func 95) #[] #[]) w; refine Calls.mono h ?_; rintro e w' ⟨rfl, rfl⟩; exact ⟨rfl, [], List.Perm.refl _, List.Pairwise.nil, own, Only.refl _ _⟩
 · obtain ⟨b, off, cur, rfl, hlo, hh, hs, hc⟩ : ∃ b off cur, A = some ⟨b, off, none⟩ ∧ lo ≤ b ∧ w.heap[b]? = some (.cells cur 85 (0, 0)) ∧ off + c * 5 ≤ cur.size ∧ ∀ j (u : Value), (l.flatMap qa3.enc)[j]? = some u → cur[off + j]? = some u := by
    have hlc := own.1; rcases own.2.2 with h | h
    · omega
    · exact h
   have hlc : l.length ≤ c := own.1; have hrow : qa8 (some (⟨b, off, none⟩ : Addr)) c = some b := by rw [qa8, if_neg (by omega)]; rfl
   have hblk := qa0 hh; have eg : ∀ args w, (callFunc 95 args).run prog w = .ok (.enter 95 args) w := enters_of func95 (by kernel_rfl) rfl; have hH : HoldsK qa3.enc 5 w b off l.toArray := fun j hj => by
    rw [size_flatK] at hj; have hj' : j < l.length * 5 := by simpa using hj
    refine ⟨?_, frozen_of_row w b _ _ _ hh⟩; rw [cell_of_row w b _ _ _ _ hh]; exact hc j _ (qly hj')
   have aE : ∀ w, (isAgg (qh9.t 24)).run prog w = .ok true w := fun w => by kernel_rfl
   have zE : ∀ w, (Go.sizeOf (qh9.t 24)).run prog w = .ok 5 w := fun w => by kernel_rfl
   have h := AnyQ.slices_SortFunc qA7 5 aE zE qa3.enc qa3.enc_len qa3.enc_one (fun x y => cmpB x.key y.key) qve 95 #[] b off c l.toArray w eg (fun m os dk hs x y => qxd x y _) hH hblk (by simp; omega); have h' : Calls prog 94 #[.slice (some ⟨b, off, none⟩) l.length c, .func (.func 95) #[] #[]] w _ := h; refine Calls.mono h' ?_; rintro e w' ⟨rfl, d', n, os, hp, hsrt, rfl⟩; have hsz : d'.size = l.length := by have := hp.1; simpa using this
   obtain ⟨l', rfl⟩ : ∃ l', d' = l'.toArray := ⟨d'.toList, by simp⟩; have hln : l'.length = l.length := by simpa using hsz
   have hperm : l'.Perm l := by
    have := hp.2.2; simp only [List.size_toArray, List.extract_toArray, List.toList_toArray] at this; rw [List.extract_eq_take_drop, List.extract_eq_take_drop] at this; simpa [List.take_of_length_le (Nat.le_of_eq hln)] using this
   have hheap : ∀ k, k < w.heap.size → (sortWorldK qa3.enc 5 w b off n l'.toArray os).heap[k]? = if k = b then some (.cells (putCells id off (flatK qa3.enc 5 l'.toArray) cur) 85 (0, 0)) else w.heap[k]? := fun k hk => by
    show ((w.heap.modify b (onCells (putCells id off (flatK qa3.enc 5 l'.toArray)))) ++ os)[k]? = _
    rw [Array.getElem?_append_left (by simpa using hk), Array.getElem?_modify]; by_cases hkb : b = k
    · subst hkb
      rw [if_pos rfl, if_pos rfl, hh]; rfl
    · rw [if_neg hkb, if_neg (fun h => hkb h.symm)]
   refine ⟨rfl, l', hperm, ?_, ⟨by rw [hln]; exact hlc, own.2.1, .inr ⟨b, off, _, rfl, hlo, (hheap b hblk).trans (if_pos rfl), ?_, fun j u hu => ?_⟩⟩, ⟨rfl, rfl, rfl, ?_, fun j hj hne => (hheap j hj).trans (if_neg fun h => hne (by rw [hrow, h]))⟩⟩
   · rw [List.pairwise_iff_getElem]
     intro i j hi hj hij; have := hsrt i j (Nat.zero_le _) hij (by simpa [hln] using hj); rw [qw4, getElem!_pos l'.toArray j (by simpa using hj), getElem!_pos l'.toArray i (by simpa using hi)] at this; simpa using this
   · rw [putCells, Array.size_mapIdx]
     exact hs
   · have hjl : j < l'.length * 5 := by
      have := (List.getElem?_eq_some_iff.1 hu).1; rwa [qao qa3.enc_len] at this
     rw [qly hjl] at hu; have hjc : off + j < cur.size := by omega
     rw [putCells, Array.getElem?_mapIdx, Array.getElem?_eq_getElem hjc, Option.map_some, if_pos ⟨by omega, by rw [size_flatK]; simp; omega⟩, show off + j - off = j by omega]; exact hu
   · show w.heap.size ≤ (w.heap.modify b _ ++ os).size
     simp
end
section
open Go.RowKit Go.MapKept
def txtE (s : ByteArray) : List Value := [.string s]
theorem qoh (s : ByteArray) : (txtE s).length = 1 := rfl
def qdb (s : ByteArray) : List UInt8 := s.data.toList
def qce (l : List UInt8) : ByteArray := ⟨l.toArray⟩
theorem qfu (s : ByteArray) : qce (qdb s) = s := by simp [qce, qdb]
def R0 : Value → Option (DataW Unit × List MemPlace) := fun _ => some (.nil, [])
section
variable {es : Array MapEntry} {clock r : Nat} {L : List qa3} {w : World}
theorem MapL.owns (h : MapL w r L) (hs : ∀ x ∈ L, x.key.size ≤ 1000000) (hl : L.length ≤ 1000000) : ∃ D : DataW Unit, w.ownsMap prog 9 R0 r L.length D ∧ Maps.size D = L.length ∧ (strKeys D).Perm (L.map fun x => qdb x.key) := by
 obtain ⟨es, clock, hb, hm⟩ := h; have hst : prog.underlying 9 = some .string := underlying9; have hkey : ∀ s : ByteArray, s.size ≤ 1000000 → keyOf prog 9 (.string s) = some (.string s.data.toList) := fun s h => WideMaps.keyOf_string_mk hst (by unfold maxLen; omega)
 have hrd : ∀ e ∈ es.toList, ∃ x ∈ L, e.key = .string x.key ∧ WideElems.rd prog 9 R0 e = some (.string (qdb x.key), .nil) := by
  intro e he; obtain ⟨j, hj, rfl⟩ := List.getElem_of_mem he; have hjl : j < L.length := by rw [← hm.len]; simpa using hj
  obtain ⟨e', h1, h2, _⟩ := hm.row j hjl; have : es.toList[j] = e' := by
   have := (Array.getElem?_eq_some_iff.1 h1).2; simpa using this
  rw [this]; refine ⟨L[j], List.getElem_mem hjl, h2, ?_⟩; unfold WideElems.rd; rw [h2, hkey _ (hs _ (List.getElem_mem hjl))]; rfl
 refine ⟨_, ⟨es, clock, hb, ⟨by rw [hm.len]; unfold maxLen; omega, hm.st, fun e he => ?_⟩, by rw [hm.len]; exact Nat.le_refl _, rfl⟩, ?_, ?_⟩
 · obtain ⟨x, _, _, h2⟩ := hrd e he
   exact ⟨_, h2⟩
 · rw [Maps.size_eq, (WideShapes.sorted_perm _).length_eq, List.length_map, Array.length_toList, hm.len]
 · refine ((WideShapes.sorted_perm _).map fun p => strOf p.1).trans ?_
   rw [List.map_map]; have : es.toList.map ((fun p : Lit × DataW Unit => strOf p.1) ∘ WideElems.rg prog 9 R0) = L.map fun x => qdb x.key := by
    apply List.ext_getElem?; intro j; rw [List.getElem?_map, List.getElem?_map, Array.getElem?_toList]; by_cases hj : j < L.length
    · obtain ⟨e, h1, h2, _⟩ := hm.row j hj
      rw [h1, List.getElem?_eq_getElem hj]; simp only [Option.map_some, Function.comp]; unfold WideElems.rg WideElems.rd; rw [h2, hkey _ (hs _ (List.getElem_mem hj))]; rfl
    · rw [List.getElem?_eq_none (by omega), Array.getElem?_eq_none (by rw [hm.len]; omega)]
      rfl
   rw [this]
end
theorem qB4 : ∀ x y : List UInt8, Op.bytesLess x y = decide (x < y)
 | _, [] => by simp [Op.bytesLess]
 | [], _ :: _ => by simp [Op.bytesLess]
 | a :: x, b :: y => by
  simp only [Op.bytesLess, qB4 x y, List.cons_lt_cons_iff]
  by_cases h1 : a < b <;> by_cases h2 : a = b <;> by_cases h3 : x < y <;> simp [h1, h2, h3]
theorem qw9 {a b : List UInt8} (h : a ≤ b) (hne : a ≠ b) : kl (qce a) (qce b) = true := by
 unfold kl; rw [Lib.toList_data, Lib.toList_data, qB4]; simp only [qce]; rcases List.le_iff_lt_or_eq.1 h with h | h
 · exact decide_eq_true h
 · exact absurd h hne
theorem qp7 : ∀ S : List (List UInt8), S.map encStr = (S.map qce).flatMap txtE
 | [] => rfl
 | a :: S => by rw [List.map_cons, qp7 S]; rfl
theorem qwa (r : Nat) (W : World) : Calls prog 298 #[.map (some r)] W fun e w' => e = .returned (.func (.func 335) #[] #[.pointer (some ⟨W.heap.size, 0, none⟩)]) ∧ w' = W.alloc (.cells #[.map (some r)] 195) := callsIn_wide.1 (qss (some r) W)
def qub (L : List qa3) (K : List ByteArray) : Prop := K.Perm (L.map (·.key)) ∧ K.Pairwise fun a b => kl a b = true
def qul (L : List qa3) (lo : Nat) (w : World) (e : Ending) (w' : World) : Prop := ∃ A c K, e = .returned (.slice A K.length c) ∧ Own txtE 9 1 w' lo A c K ∧ Below lo w w' ∧ qub L K
theorem qpx (r : Nat) (L : List qa3) (w : World) (h : MapL w r L) (hs : ∀ x ∈ L, x.key.size ≤ 1000000) (hl : L.length ≤ 1000000) : Calls prog 297 #[.func (.func 335) #[] #[.pointer (some ⟨w.heap.size, 0, none⟩)]] (w.alloc (.cells #[.map (some r)] 195)) (qul L (w.heap.size + 1) (w.alloc (.cells #[.map (some r)] 195))) := by
 have hnd := h.nodup; obtain ⟨D, hown, hsz, hperm⟩ := h.owns hs hl; refine (callsIn_wide.1 (qmz r L.length D R0 w hown (by rw [hsz]; unfold maxLen; omega) (by rw [hsz]; omega))).mono ?_; rintro e w' ⟨v, ss, rfl, hp, hrow, _, hb⟩; simp only [World.size_alloc] at hrow hb; obtain ⟨S, hS⟩ : ∃ S, S = ss.mergeSort (fun x y => decide (x ≤ y)) := ⟨_, rfl⟩; have hSp : S.Perm ss := by rw [hS]; exact List.mergeSort_perm _ _
 have hSL : S.Perm (L.map fun x => qdb x.key) := (hSp.trans hp).trans hperm; have hSw : S.Pairwise fun a b => a ≤ b := by
  have := List.pairwise_mergeSort (le := fun x y : List UInt8 => decide (x ≤ y)) (fun a b c h1 h2 => by simp only [decide_eq_true_eq] at *; exact List.le_trans h1 h2) (fun a b => by simp only [Bool.or_eq_true, decide_eq_true_eq]; exact List.le_total a b) ss; rw [hS]; exact this.imp fun h => by simpa using h
 have hSn : S.Nodup := by
  refine hSL.nodup_iff.2 ?_; have h2 : ((L.map (·.key)).map qdb).Nodup := by
   rw [List.Nodup, List.pairwise_map]; exact List.Pairwise.imp (fun {a b} hab he => hab (by rw [← qfu a, ← qfu b, he])) hnd
  rwa [List.map_map] at h2
 rw [← hS] at hrow; have hlen : S.length = ss.length := hSp.length_eq; have hcells := qp7 S; rw [hcells] at hrow; obtain ⟨A, c, rfl, ho⟩ := Own.of_row (l := S.map qce) qoh hrow (by rw [List.length_map, hlen]); refine ⟨A, c, S.map qce, rfl, ho, hb, ?_, ?_⟩
 · have := hSL.map qce
   rw [List.map_map] at this; have e : (L.map (qce ∘ fun x => qdb x.key)) = L.map (·.key) := List.map_congr_left fun x _ => qfu x.key
   rwa [e] at this
 · rw [List.pairwise_map]
   exact hSw.imp₂ (fun a b h1 h2 => qw9 h1 h2) hSn
end
end Go.Proofs.YtecikkjbnkhhkaaGreat
