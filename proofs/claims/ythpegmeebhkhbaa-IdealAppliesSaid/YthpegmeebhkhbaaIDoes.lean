/- The statement IdealDoes: the walk. -/
import Derived.Test.YthpegmeebhkhbaaPref
import Derived.Test.YthpegmeebhkhbaaEff2
import Derived.Test.YthpegmeebhkhbaaIWaits
import Derived.Test.YthpegmeebhkhbaaOver
import Derived.StillTailTactics
import Derived.Deep.DeepCutAuto
namespace Go.Proofs.Ythpegmeebhkhbaa
open Go.RowKit

theorem bcellD {W w1 : World} (hb : Below W.heap.size W w1) : (∀ b, b < W.heap.size → w1.heap[b]? = W.heap[b]?) := fun b h => hb.block b h
theorem bcellE {W w1 : World} (hb : Below W.heap.size W w1) : (∀ b o, b < W.heap.size → w1.cell? ⟨b, o, none⟩ = W.cell? ⟨b, o, none⟩) ∧ (∀ b o, b < W.heap.size → w1.frozen? ⟨b, o, none⟩ = W.frozen? ⟨b, o, none⟩) :=
  ⟨fun b o h => hb.cell (p := ⟨b, o, none⟩) h, fun b o h => hb.frozen (p := ⟨b, o, none⟩) h⟩
theorem LowL.off {α : Type} {lo p : Nat} {A : Option Addr} {l : List α} (h : LowL lo A l) (hp : p < lo) : OffL p A l := h.imp id fun ⟨b, o, h1, h2⟩ => ⟨b, o, h1, by omega⟩
/-- two stores in variables, apart -/
structure Var2 (wx : World) (p q : Nat) (PX : Option Addr) (px : Nat) (QX : Option Addr) (qx : Nat) (PY : Option Addr) (py : Nat) (QY : Option Addr) (qy : Nat) (s t : Shelf) : Prop where
  a : VarI wx p PX px QX qx s
  b : VarI wx q PY py QY qy t
  ne : p ≠ q
  xa : OffL q PX s.pairs ∧ OffL q QX s.queue
  xb : OffL p PY t.pairs ∧ OffL p QY t.queue
def TwoVars (w1 wx : World) (s : Shelf) (v8 v9 : Value) : Prop :=
  ∃ p q PX px QX qx PY py QY qy, v8 = .pointer (some ⟨p, 0, none⟩) ∧ v9 = .pointer (some ⟨q, 0, none⟩) ∧ Below w1.heap.size w1 wx ∧ w1.heap.size ≤ p ∧ w1.heap.size ≤ q ∧ Var2 wx p q PX px QX qx PY py QY qy s s
def GivesShL (s : Shelf) (w : World) (e : Ending) (w' : World) : Prop :=
  ∃ lo PA pc QA qc, lo = w.heap.size ∧ e = .returned (.agg #[.slice PA s.pairs.length pc, .slice QA s.queue.length qc]) ∧ ShOwn w' lo PA pc QA qc s ∧ Below w.heap.size w w'
theorem copyShelf_anyL (s : Shelf) (PA : Option Addr) (pc : Nat) (QA : Option Addr) (qc : Nat) (w : World) (h : ShIn w w.heap.size PA pc QA qc s) (hp : s.pairs.length ≤ 1000000) (hq : s.queue.length ≤ 1000000) :
    Calls Try.prog 37 #[.agg #[.slice PA s.pairs.length pc, .slice QA s.queue.length qc]] w (GivesShL s w) :=
  (copyShelf_any s PA pc QA qc w h hp hq).mono fun _ _ ⟨PA, pc, QA, qc, h1, h2, h3⟩ => ⟨_, PA, pc, QA, qc, rfl, h1, h2, h3⟩
theorem row2 {W : World} {p : Nat} {a b v0 v1 : Value} {t : TypeId} (h : W.heap[p]? = some (.cells #[a, b] t (0, 0))) : ((W.setCell ⟨p, 0, none⟩ v0).setCell ⟨p, 1, none⟩ v1).heap[p]? = some (.cells #[v0, v1] t (0, 0)) := by
  have e1 := heap_setCell_same W p 0 _ _ v0 h
  rw [heap_setCell_same _ p 1 _ _ v1 e1]
  rfl
theorem ShIn.al {w : World} {B : Nat} {PA : Option Addr} {pc : Nat} {QA : Option Addr} {qc : Nat} {s : Shelf} (h : ShIn w B PA pc QA qc s) (hB : B ≤ w.heap.size) (o : Obj) : ShIn (w.alloc o) B PA pc QA qc s := h.below ((Below.refl B w).alloc hB o)
theorem heap_new {W : World} {o : Obj} {n : Nat} (h : n = W.heap.size) : (W.alloc o).heap[n]? = some o := by rw [heap_alloc_if, if_pos h]
theorem heap_set_other {W : World} {b i n : Nat} {v : Value} (h : n ≠ b) : (W.setCell ⟨b, i, none⟩ v).heap[n]? = W.heap[n]? := Below.heap_setCell _ _ _ _ h
theorem heap_drw (W : World) (n : Nat) : W.drew.heap[n]? = W.heap[n]? := rfl
theorem ShIn.dr {w : World} {B : Nat} {PA : Option Addr} {pc : Nat} {QA : Option Addr} {qc : Nat} {s : Shelf} (h : ShIn w B PA pc QA qc s) : ShIn w.drew B PA pc QA qc s := h.below (Below.refl B w).drew
theorem VarI.other {w : World} {q p i : Nat} {u : Value} {PA : Option Addr} {pc : Nat} {QA : Option Addr} {qc : Nat} {t : Shelf} (h : VarI w q PA pc QA qc t) (hne : q ≠ p) (h1 : OffL p PA t.pairs) (h2 : OffL p QA t.queue) : VarI (w.setCell ⟨p, i, none⟩ u) q PA pc QA qc t :=
  ⟨(heap_set_other hne).trans h.row, by simpa using h.sh.offCell h1 h2 i u, h.off⟩
theorem Var2.keep {w W : World} {p q : Nat} {PX : Option Addr} {px : Nat} {QX : Option Addr} {qx : Nat} {PY : Option Addr} {py : Nat} {QY : Option Addr} {qy : Nat} {s t : Shelf} (h : Var2 w p q PX px QX qx PY py QY qy s t) (hb : Below w.heap.size w W) : Var2 W p q PX px QX qx PY py QY qy s t :=
  ⟨h.a.keep hb, h.b.keep hb, h.ne, h.xa, h.xb⟩
theorem Var2.putA {w : World} {p q : Nat} {PX : Option Addr} {px : Nat} {QX : Option Addr} {qx : Nat} {PY : Option Addr} {py : Nat} {QY : Option Addr} {qy : Nat} {s t s' : Shelf} (h : Var2 w p q PX px QX qx PY py QY qy s t) {PZ : Option Addr} {pz : Nat} {QZ : Option Addr} {qz : Nat} (hin : ShIn w w.heap.size PZ pz QZ qz s')
    (hp : OffL p PZ s'.pairs ∧ OffL p QZ s'.queue) (hq : OffL q PZ s'.pairs ∧ OffL q QZ s'.queue) : Var2 ((w.setCell ⟨p, 0, none⟩ (.slice PZ s'.pairs.length pz)).setCell ⟨p, 1, none⟩ (.slice QZ s'.queue.length qz)) p q PZ pz QZ qz PY py QY qy s' t :=
  ⟨VarI.put h.a.row hin hp.1 hp.2 rfl rfl, (h.b.other h.ne.symm h.xb.1 h.xb.2).other h.ne.symm h.xb.1 h.xb.2, h.ne, hq, h.xb⟩
theorem Var2.putB {w : World} {p q : Nat} {PX : Option Addr} {px : Nat} {QX : Option Addr} {qx : Nat} {PY : Option Addr} {py : Nat} {QY : Option Addr} {qy : Nat} {s t t' : Shelf} (h : Var2 w p q PX px QX qx PY py QY qy s t) {PZ : Option Addr} {pz : Nat} {QZ : Option Addr} {qz : Nat} (hin : ShIn w w.heap.size PZ pz QZ qz t')
    (hq : OffL q PZ t'.pairs ∧ OffL q QZ t'.queue) (hp : OffL p PZ t'.pairs ∧ OffL p QZ t'.queue) : Var2 ((w.setCell ⟨q, 0, none⟩ (.slice PZ t'.pairs.length pz)).setCell ⟨q, 1, none⟩ (.slice QZ t'.queue.length qz)) p q PX px QX qx PZ pz QZ qz s t' :=
  ⟨(h.a.other h.ne h.xa.1 h.xa.2).other h.ne h.xa.1 h.xa.2, VarI.put h.b.row hin hq.1 hq.2 rfl rfl, h.ne, h.xa, hp⟩
def doEs (l : List Eff) (s : Shelf) : Shelf := l.foldl (fun s e => doE e s) s
theorem doEs_succ {l : List Eff} {k : Nat} (hk : k < l.length) (s : Shelf) : doEs (l.take (k + 1)) s = doE l[k] (doEs (l.take k) s) := by
  rw [List.take_succ_eq_append_getElem hk, doEs, List.foldl_append]
  rfl
theorem doEs_len : ∀ (l : List Eff) (s : Shelf), (doEs l s).pairs.length ≤ s.pairs.length + l.length ∧ (doEs l s).queue.length ≤ s.queue.length + l.length
  | [], s => ⟨Nat.le_refl _, Nat.le_refl _⟩
  | e :: l, s => by
    have h := doEs_len l (doE e s)
    have h1 := doE_len e s
    have e' : doEs (e :: l) s = doEs l (doE e s) := rfl
    rw [e']
    simp only [List.length_cons]
    omega
def call0 : Call0 := ⟨0, ByteArray.empty, ByteArray.empty, ByteArray.empty, none, 0, 0⟩
set_option maxHeartbeats 4000000 in
set_option maxRecDepth 100000 in
theorem idealDoes_any (s : Shelf) (PA : Option Addr) (pc : Nat) (QA : Option Addr) (qc : Nat) (l : List Eff) (A : Option Addr) (c : Nat) (upto : Int) (w : World) (h : ShIn w w.heap.size PA pc QA qc s) (hA : Arr Eff.enc 7 w w.heap.size A l) (hc : l.length ≤ c) (hm : c ≤ 9223372036854775807) :
    Calls Try.prog 16 #[.agg #[.slice PA s.pairs.length pc, .slice QA s.queue.length qc], .slice A l.length c, .int .u64 upto] w fun e w' => e = .returned (.bool true) ∧ Below w.heap.size w w' := by
  have H := hid h
  have HA := hid hA
  have hplen := h.plen
  have hpmax := h.pmax
  have hqlen := h.qlen
  have hqmax := h.qmax
  clear h hA
  go_enter Try.func16, Try.ntmps16
  go_wp2_with fail
  refine (large_any s PA pc QA qc call0 [] _ (in_below H.out (by repeat (first | exact Below.refl _ _ | assumption | refine Below.drew ?_ | refine below_drewN ?_ _ | refine Below.alloc ?_ (by first | omega | (simp; done) | (simp; omega)) _ | refine Below.setCell ?_ (by first | omega | (simp; done) | (simp; omega)) _))) ⟨Arr.nil, rfl, by simp [call0], by simp [call0]⟩).mono ?_
  rintro e w1 ⟨r, rfl, hb1, hsm⟩
  have hz1 := hb1.size
  simp only [World.size_alloc] at hz1
  have bw1 : Below w.heap.size w w1 := Below.trans (by repeat (first | exact Below.refl _ _ | assumption | refine Below.drew ?_ | refine below_drewN ?_ _ | refine Below.alloc ?_ (by first | omega | (simp; done) | (simp; omega)) _ | refine Below.setCell ?_ (by first | omega | (simp; done) | (simp; omega)) _)) (hb1.mono (show w.heap.size ≤ _ from (by first | omega | (simp; done) | (simp; omega))))
  have R0 := hid (show w1.heap[w.heap.size]? = some (.cells #[.slice PA s.pairs.length pc, .slice QA s.queue.length qc] 41 (0, 0)) from (hb1.block _ (by simp)).trans (by rw [heap_alloc_if, if_pos rfl]))
  cases r with
  | true =>
    clear hsm
    go_wp2_with fail
    refine (awake15 _).mono ?_
    rintro e w2 ⟨rfl, hb2⟩
    go_wp2
    go_ret
    exact ⟨rfl, bw1.trans (hb2.mono bw1.size)⟩
  | false =>
  have HS := hid (hsm rfl)
  clear hsm hb1
  by_cases hl : l.length ≤ 60
  case neg =>
    have hl' : (60 : Int) < (l.length : Int) := by omega
    go_wp2_with fail
    refine (awake15 _).mono ?_
    rintro e w2 ⟨rfl, hb2⟩
    go_wp2
    go_ret
    exact ⟨rfl, bw1.trans (hb2.mono bw1.size)⟩
  have HB1 := hid bw1
  clear bw1
  go_wp2_with fail
  go_loop [7] (fun vi => ∃ k : Nat, k ≤ l.length ∧ vi = .int .i64 k) (fun vi => l.length - (intOf vi).toNat)
  case atStart => exact ⟨0, Nat.zero_le _, rfl⟩
  case round =>
    obtain ⟨k, hkl, rfl⟩ := hrel
    by_cases hlt : k < l.length
    · obtain ⟨b, off, rfl, hB, k0, k1, k2, k3, k4, k5, k6⟩ := (HA.out.below HB1.out).eff hlt
      clear k0 k3 k4 k5 k6
      by_cases t1 : (1000 : Int) < (l[k].key.size : Int)
      · go_wp2_with fail
        refine (awake15 _).mono ?_
        rintro e w2 ⟨rfl, hb2⟩
        go_wp2
        go_ret
        exact ⟨rfl, HB1.out.trans (hb2.mono HB1.out.size)⟩
      · by_cases t2 : (1000 : Int) < (l[k].val.size : Int)
        · go_wp2_with fail
          refine (awake15 _).mono ?_
          rintro e w2 ⟨rfl, hb2⟩
          go_wp2
          go_ret
          exact ⟨rfl, HB1.out.trans (hb2.mono HB1.out.size)⟩
        · go_wp2_with fail
          exact ⟨⟨k + 1, by omega, by go_num⟩, by simp [intOf]; omega⟩
    · clear hkl
      have c0 := cell_of_row w1 _ 0 _ _ _ R0.out
      have c1 := cell_of_row w1 _ 1 _ _ _ R0.out
      simp only [List.getElem?_toArray, List.getElem?_cons_zero, List.getElem?_cons_succ] at c0 c1
      have hl1 : w.heap.size < w1.heap.size := by omega
      go_wp2_with fail
      have tok1 := hid hl
      have HIN := hid (fun X (hX : Below w1.heap.size w1 X) => in_below H.out (HB1.out.trans (hX.mono HB1.out.size)))
      have HS1 := hid (show s.pairs.length ≤ 1000000 by have := HS.out.pairs; omega)
      have HS2 := hid (show s.queue.length ≤ 1000000 by have := HS.out.queue; omega)
      have HC2 := hid (And.intro c0 c1)
      go_upto_region 8 with fail
      go_cut [8, 9] (fun v8 v9 wx => TwoVars w1 wx s v8 v9)
      case first =>
        go_region_held3 (fun w' => w'.cell? ⟨w.heap.size, 0, none⟩ = some (.slice PA s.pairs.length pc) ∧ w'.cell? ⟨w.heap.size, 1, none⟩ = some (.slice QA s.queue.length qc)) (first | exact kept2 (by repeat (first | with_reducible exact Below.refl _ _ | with_reducible assumption | with_reducible refine Below.drew ?_ | with_reducible refine below_drewN ?_ _ | with_reducible refine Below.alloc ?_ (by first | omega | (simp; done) | (simp; omega)) _ | with_reducible refine Below.setCell ?_ (by first | omega | (simp; done) | (simp; omega)) _)) hl1 HC2.out | go_keep) (first | (go_at_call 37; have tok := tok1; refine (copyShelf_anyL s PA pc QA qc _ (HIN.out _ ?_) HS1.out HS2.out).mono ?_; (exact (by repeat (first | with_reducible exact Below.refl _ _ | with_reducible assumption | with_reducible refine Below.drew ?_ | with_reducible refine below_drewN ?_ _ | with_reducible refine Below.alloc ?_ (by first | omega | (simp; done) | (simp; omega)) _ | with_reducible refine Below.setCell ?_ (by first | omega | (simp; done) | (simp; omega)) _))); rintro e wX ⟨loX, PX, pX, QX, qX, hloX, rfl, hownX, hbX⟩; clear tok1 tok; (try simp only [World.size_alloc, World.size_drew] at hloX); have sX := hbX.size; have kX := bcellD hbX; obtain ⟨hcX, hfX⟩ := bcellE hbX; (try simp only [World.size_alloc, World.size_drew] at sX); have stX : Below w1.heap.size w1 wX := (by refine Below.trans ?_ (hbX.mono ?_); exact (by repeat (first | with_reducible exact Below.refl _ _ | with_reducible assumption | with_reducible refine Below.drew ?_ | with_reducible refine below_drewN ?_ _ | with_reducible refine Below.alloc ?_ (by first | omega | (simp; done) | (simp; omega)) _ | with_reducible refine Below.setCell ?_ (by first | omega | (simp; done) | (simp; omega)) _)); (first | exact Nat.le_refl _ | (simp; done) | (simp; omega) | (have := sX; omega))); (try have s5 : w1.heap.size < wX.heap.size := by omega); (try have s6 : w1.heap.size + 1 < wX.heap.size := by omega); (try have ne0 : ¬ w1.heap.size = wX.heap.size := by omega); (try have en0 : ¬ wX.heap.size = w1.heap.size := by omega); (try have ne1 : ¬ w1.heap.size + 1 = wX.heap.size := by omega); (try have en1 : ¬ wX.heap.size = w1.heap.size + 1 := by omega); (try have zcX0 := fun o => hcX (w1.heap.size) o (by first | omega | (simp; done) | (simp; omega))); (try have zfX0 := fun o => hfX (w1.heap.size) o (by first | omega | (simp; done) | (simp; omega))); (try have zcX1 := fun o => hcX (w1.heap.size + 1) o (by first | omega | (simp; done) | (simp; omega))); (try have zfX1 := fun o => hfX (w1.heap.size + 1) o (by first | omega | (simp; done) | (simp; omega)))) | (go_at_call 37; refine (copyShelf_anyL s PA pc QA qc _ (HIN.out _ ?_) HS1.out HS2.out).mono ?_; (exact (by repeat (first | with_reducible exact Below.refl _ _ | with_reducible assumption | with_reducible refine Below.drew ?_ | with_reducible refine below_drewN ?_ _ | with_reducible refine Below.alloc ?_ (by first | omega | (simp; done) | (simp; omega)) _ | with_reducible refine Below.setCell ?_ (by first | omega | (simp; done) | (simp; omega)) _))); rintro e wY ⟨loY, PY, pY, QY, qY, hloY, rfl, hownY, hbY⟩; (try simp only [World.size_alloc] at hloY); have sY := hbY.size; have kY := bcellD hbY; obtain ⟨hcY, hfY⟩ := bcellE hbY; (try simp only [World.size_alloc] at sY); have stY : Below w1.heap.size w1 wY := (by refine Below.trans ?_ (hbY.mono ?_); exact (by repeat (first | with_reducible exact Below.refl _ _ | with_reducible assumption | with_reducible refine Below.drew ?_ | with_reducible refine below_drewN ?_ _ | with_reducible refine Below.alloc ?_ (by first | omega | (simp; done) | (simp; omega)) _ | with_reducible refine Below.setCell ?_ (by first | omega | (simp; done) | (simp; omega)) _)); (first | exact Nat.le_refl _ | (simp; done) | (simp; omega) | (have := sY; omega) | exact stX.size)); (try have s1 : w1.heap.size < wY.heap.size := by omega); (try have s2 : w1.heap.size + 1 < wY.heap.size := by omega); (try have s3 : wX.heap.size < wY.heap.size := by omega); (try have s4 : wX.heap.size + 1 < wY.heap.size := by omega); (try have ne2 : ¬ w1.heap.size = wY.heap.size := by omega); (try have en2 : ¬ wY.heap.size = w1.heap.size := by omega); (try have ne3 : ¬ w1.heap.size + 1 = wY.heap.size := by omega); (try have en3 : ¬ wY.heap.size = w1.heap.size + 1 := by omega); (try have ne4 : ¬ wX.heap.size = wY.heap.size := by omega); (try have en4 : ¬ wY.heap.size = wX.heap.size := by omega); (try have ne5 : ¬ wX.heap.size + 1 = wY.heap.size := by omega); (try have en5 : ¬ wY.heap.size = wX.heap.size + 1 := by omega); (try have zcY0 := fun o => hcY (w1.heap.size) o (by first | omega | (simp; done) | (simp; omega))); (try have zfY0 := fun o => hfY (w1.heap.size) o (by first | omega | (simp; done) | (simp; omega))); (try have zcY1 := fun o => hcY (w1.heap.size + 1) o (by first | omega | (simp; done) | (simp; omega))); (try have zfY1 := fun o => hfY (w1.heap.size + 1) o (by first | omega | (simp; done) | (simp; omega))); (try have zcY2 := fun o => hcY (wX.heap.size) o (by first | omega | (simp; done) | (simp; omega))); (try have zfY2 := fun o => hfY (wX.heap.size) o (by first | omega | (simp; done) | (simp; omega))); (try have zcY3 := fun o => hcY (wX.heap.size + 1) o (by first | omega | (simp; done) | (simp; omega))); (try have zfY3 := fun o => hfY (wX.heap.size + 1) o (by first | omega | (simp; done) | (simp; omega)))))
        all_goals
          go_wp2_with fail
          go_meet
          refine ⟨_, _, PX, pX, QX, qX, PY, pY, QY, qY, rfl, rfl, (by repeat (first | with_reducible exact Below.refl _ _ | with_reducible assumption | with_reducible refine Below.drew ?_ | with_reducible refine below_drewN ?_ _ | with_reducible refine Below.alloc ?_ (by first | omega | (simp; done) | (simp; omega)) _ | with_reducible refine Below.setCell ?_ (by first | omega | (simp; done) | (simp; omega)) _)), ?_, ?_, ⟨⟨?_, ?_, ?_, ?_⟩, ⟨?_, ?_, ?_, ?_⟩, ?_, ⟨?_, ?_⟩, ⟨?_, ?_⟩⟩⟩
          all_goals first | omega | exact hownX.pairs.off (by omega) | exact hownX.queue.off (by omega) | exact hownY.pairs.off (by omega) | exact hownY.queue.off (by omega) | ((repeat (first | with_reducible refine row2 (a := .slice none 0 0) (b := .slice none 0 0) ?_ | with_reducible exact heap_new (by first | omega | (simp; done) | (simp only [World.size_alloc]; omega) | (simp; omega)) | (with_reducible refine (heap_set_other ?_).trans ?_; omega) | (with_reducible refine (Below.heap_alloc _ _ _ ?_).trans ?_; exact (by first | omega | (simp; done) | (simp only [World.size_alloc]; omega) | (simp; omega))) | (with_reducible refine (kY _ ?_).trans ?_; exact (by first | omega | (simp; done) | (simp only [World.size_alloc]; omega) | (simp; omega))) | (with_reducible refine (kX _ ?_).trans ?_; exact (by first | omega | (simp; done) | (simp only [World.size_alloc]; omega) | (simp; omega))) | with_reducible refine (heap_drw _ _).trans ?_)); done) | ((refine ShIn.more (B := wX.heap.size) ?_ (by first | omega | (simp; done) | (simp only [World.size_alloc]; omega) | (simp; omega)); repeat (first | with_reducible exact hownX.in_ | with_reducible refine ShIn.offCell ?_ (hownX.pairs.off (by omega)) (hownX.queue.off (by omega)) _ _ | (with_reducible refine ShIn.al ?_ ?_ _; rotate_left; exact (by first | omega | (simp; done) | (simp only [World.size_alloc]; omega) | (simp; omega))) | with_reducible refine ShIn.dr ?_ | (with_reducible refine ShIn.below ?_ (hbY.mono ?_); rotate_left; exact (by first | omega | (simp; done) | (simp only [World.size_alloc]; omega) | (simp; omega))))); done) | ((refine ShIn.more (B := wY.heap.size) ?_ (by first | omega | (simp; done) | (simp only [World.size_alloc]; omega) | (simp; omega)); repeat (first | with_reducible exact hownY.in_ | with_reducible refine ShIn.offCell ?_ (hownY.pairs.off (by omega)) (hownY.queue.off (by omega)) _ _ | (with_reducible refine ShIn.al ?_ ?_ _; rotate_left; exact (by first | omega | (simp; done) | (simp only [World.size_alloc]; omega) | (simp; omega))) | with_reducible refine ShIn.dr ?_)); done) | (simp; done) | (simp; omega)
      case rest =>
        obtain ⟨p, q, PX, px, QX, qx, PY, py, QY, qy, rfl, rfl, st, hp, hq, hv⟩ := hcut
        have HV0 := hid hv
        have HST := hid st
        clear hv st c0 c1 hl1 HC2 tok1 R0
        go_wp2_with fail
        go_loopw [10] (fun vi wr => ∃ (k : Nat) (PX : Option Addr) (px : Nat) (QX : Option Addr) (qx : Nat) (PY : Option Addr) (py : Nat) (QY : Option Addr) (qy : Nat), k ≤ l.length ∧ vi = .int .i64 k ∧ Below w1.heap.size w1 wr ∧ Var2 wr p q PX px QX qx PY py QY qy (doEs (l.take k) s) (doEs (l.take k) s)) (fun vi _ => l.length - (intOf vi).toNat)
        case atStart => exact ⟨0, PX, px, QX, qx, PY, py, QY, qy, Nat.zero_le _, rfl, HST.out, by simpa [doEs] using HV0.out⟩
        case round =>
          obtain ⟨k, PX, px, QX, qx, PY, py, QY, qy, hkl, rfl, hb, hv⟩ := hrel
          obtain ⟨S, hS⟩ : ∃ S, S = doEs (l.take k) s := ⟨_, rfl⟩
          rw [← hS] at hv
          have HSL := hid (show S.pairs.length ≤ 90000 ∧ S.queue.length ≤ 90000 by
            have := doEs_len (l.take k) s
            rw [← hS, List.length_take] at this
            have := HS.out.pairs
            have := HS.out.queue
            omega)
          have HSS := hid hS
          have HV := hid hv
          have HB := hid hb
          obtain ⟨hp1, a0, a1⟩ := hv.a.cells
          obtain ⟨hq1, b0, b1⟩ := hv.b.cells
          have g0 := frozen_of_row wr _ 0 _ _ hv.a.row
          have g1 := frozen_of_row wr _ 1 _ _ hv.a.row
          clear hS hv hb
          by_cases hlt : k < l.length
          · obtain ⟨b, off, hA1, hB, k0, k1, k2, k3, k4, k5, k6⟩ := (HA.out.below (HB1.out.trans (HB.out.mono HB1.out.size))).eff hlt
            subst hA1
            have hlk : (k : Int) < (l.length : Int) := by omega
            obtain ⟨T, hT⟩ : ∃ T, T = doE l[k] S := ⟨_, rfl⟩
            have HN := hid (show T = doEs (l.take (k + 1)) s by rw [hT, doEs_succ hlt, HSS.out])
            have HT := hid hT
            clear hT
            go_wp2_with fail
            go_still_tail 5, (by kernel_rfl)
            go_wp2_with fail
            have hV2 := HV.out.keep (W := wr.drew) (by repeat (first | exact Below.refl _ _ | assumption | refine Below.drew ?_ | refine below_drewN ?_ _ | refine Below.alloc ?_ (by first | omega | (simp; done) | (simp; omega)) _ | refine Below.setCell ?_ (by first | omega | (simp; done) | (simp; omega)) _))
            refine (idealdo_any S PX px QX qx l[k] _ hV2.a.sh HSL.out.1 HSL.out.2).mono ?_
            rintro e w2 ⟨PZ, pz, QZ, qz, rfl, hown, hb2⟩
            rw [← HT.out] at hown ⊢
            have hV3 := hV2.keep hb2
            have hz2 : wr.heap.size ≤ w2.heap.size := hb2.size
            have d0 := cell_of_row w2 _ 0 _ _ _ hV3.a.row
            have d1 := cell_of_row w2 _ 1 _ _ _ hV3.a.row
            have e0 := frozen_of_row w2 _ 0 _ _ hV3.a.row
            have e1 := frozen_of_row w2 _ 1 _ _ hV3.a.row
            have HV4 := hid (hV3.putA hown.in_ ⟨hown.pairs.off (.inl hp1), hown.queue.off (.inl hp1)⟩ ⟨hown.pairs.off (.inl hq1), hown.queue.off (.inl hq1)⟩)
            have hbw2 : Below w1.heap.size w1 w2 := HB.out.trans (Below.mono (show Below wr.heap.size wr w2 from Below.trans (by repeat (first | exact Below.refl _ _ | assumption | refine Below.drew ?_ | refine below_drewN ?_ _ | refine Below.alloc ?_ (by first | omega | (simp; done) | (simp; omega)) _ | refine Below.setCell ?_ (by first | omega | (simp; done) | (simp; omega)) _)) hb2) HB.out.size)
            have HB4 := hid ((hbw2.setCell (p := ⟨p, 0, none⟩) hp (.slice PZ T.pairs.length pz)).setCell (p := ⟨p, 1, none⟩) hp (.slice QZ T.queue.length qz))
            clear hV2 hV3 hown hb2 hbw2 a0 a1 g0 g1 b0 b1 k0 k1 k2 k3 k4 k5 k6
            go_upto_region 13 with fail
            obtain ⟨W, hW⟩ : ∃ W, W = (w2.setCell ⟨p, 0, none⟩ (.slice PZ T.pairs.length pz)).setCell ⟨p, 1, none⟩ (.slice QZ T.queue.length qz) := ⟨_, rfl⟩
            rw [← hW] at HV4 HB4 ⊢
            have hzW : W.heap.size = w2.heap.size := by rw [hW]; simp [World.setCell]
            clear hW d0 d1 e0 e1
            obtain ⟨hq4, b0, b1⟩ := HV4.out.b.cells
            obtain ⟨hp4, a0, a1⟩ := HV4.out.a.cells
            have g0 := frozen_of_row W _ 0 _ _ HV4.out.b.row
            have g1 := frozen_of_row W _ 1 _ _ HV4.out.b.row
            obtain ⟨b', off', hA1, hB', k0, k1, k2, k3, k4, k5, k6⟩ := (HA.out.below (HB1.out.trans (HB4.out.mono HB1.out.size))).eff hlt
            cases hA1
            go_still_tail 5, (by kernel_rfl)
            go_wp2_with fail
            have hV2 := HV4.out.keep (W := W.drew) (by repeat (first | exact Below.refl _ _ | assumption | refine Below.drew ?_ | refine below_drewN ?_ _ | refine Below.alloc ?_ (by first | omega | (simp; done) | (simp; omega)) _ | refine Below.setCell ?_ (by first | omega | (simp; done) | (simp; omega)) _))
            refine (refdo_new S PY py QY qy l[k] _ hV2.b.sh (by have := HSL.out; omega) (by have := HSL.out; omega)).mono ?_
            rintro e w4 ⟨PU, pu, QU, qu, rfl, hin, hnew, hb4⟩
            rw [← HT.out] at hin hnew ⊢
            have hV5 := hV2.keep hb4
            have hz4 : W.heap.size ≤ w4.heap.size := hb4.size
            have d0 := cell_of_row w4 _ 0 _ _ _ hV5.b.row
            have d1 := cell_of_row w4 _ 1 _ _ _ hV5.b.row
            have e0 := frozen_of_row w4 _ 0 _ _ hV5.b.row
            have e1 := frozen_of_row w4 _ 1 _ _ hV5.b.row
            have hoffs : (OffL q PU T.pairs ∧ OffL q QU T.queue) ∧ (OffL p PU T.pairs ∧ OffL p QU T.queue) := by
              rcases hnew with ⟨h1, h2⟩ | ⟨h1, h2, h3⟩
              · exact ⟨⟨h1.off hq4, h2.off hq4⟩, ⟨h1.off hp4, h2.off hp4⟩⟩
              · rw [h1, h2, h3]; exact ⟨HV4.out.b.off, HV4.out.xb⟩
            have HV6 := hid (hV5.putB hin hoffs.1 hoffs.2)
            have hbw4 : Below w1.heap.size w1 w4 := HB4.out.trans (Below.mono (show Below W.heap.size W w4 from Below.trans (by repeat (first | exact Below.refl _ _ | assumption | refine Below.drew ?_ | refine below_drewN ?_ _ | refine Below.alloc ?_ (by first | omega | (simp; done) | (simp; omega)) _ | refine Below.setCell ?_ (by first | omega | (simp; done) | (simp; omega)) _)) hb4) HB4.out.size)
            have HB6 := hid ((hbw4.setCell (p := ⟨q, 0, none⟩) hq (.slice PU T.pairs.length pu)).setCell (p := ⟨q, 1, none⟩) hq (.slice QU T.queue.length qu))
            clear hV2 hV5 hin hnew hb4 hbw4 hoffs a0 a1 g0 g1 b0 b1 k0 k1 k2 k3 k4 k5 k6
            go_upto_region 14 with fail
            obtain ⟨V, hV⟩ : ∃ V, V = (w4.setCell ⟨q, 0, none⟩ (.slice PU T.pairs.length pu)).setCell ⟨q, 1, none⟩ (.slice QU T.queue.length qu) := ⟨_, rfl⟩
            rw [← hV] at HV6 HB6 ⊢
            clear hV d0 d1 e0 e1
            obtain ⟨hq6, b0, b1⟩ := HV6.out.b.cells
            obtain ⟨hp6, a0, a1⟩ := HV6.out.a.cells
            go_wp2_with fail
            refine (same_shelf T PZ pz QZ qz PU pu QU qu _ HV6.out.a.sh HV6.out.b.sh).mono ?_
            rintro e w6 ⟨rfl, hb6⟩
            have HV7 := hid (HV6.out.keep hb6)
            rw [HN.out] at HV7
            go_wp2_with fail
            exact ⟨⟨k + 1, _, _, _, _, _, _, _, _, by omega, by go_num, HB6.out.trans (hb6.mono HB6.out.size), HV7.out⟩, by simp [intOf]; omega⟩
          · have bwr := HB1.out.trans (HB.out.mono HB1.out.size)
            have HBR := hid bwr
            go_wp2_with fail
            clear hkl hlt HSL HSS HV HB hp1 a0 a1 hq1 b0 b1 g0 g1 HV0 HST S hp hq
            refine (replay_any l A c upto _ ((HA.out.below bwr).more bwr.size) hc hm (by omega)).mono ?_
            rintro e w2 ⟨PT, pt, QT, qt, rfl, hown, hb2⟩
            obtain ⟨T, hT⟩ : ∃ T, T = replay l upto := ⟨_, rfl⟩
            rw [← hT] at hown ⊢
            have HT := hid hT
            have HO := hid hown
            have bw2 : Below wr.heap.size wr w2 := hb2
            clear hT hown hb2
            go_upto_region 17 with fail
            obtain ⟨W, hW⟩ : ∃ W, W = w2.alloc (.cells #[.slice PT T.pairs.length pt, .slice QT T.queue.length qt] 41) := ⟨_, rfl⟩
            rw [← hW]
            have b2W : Below w2.heap.size w2 W := by rw [hW]; exact (by repeat (first | exact Below.refl _ _ | assumption | refine Below.drew ?_ | refine below_drewN ?_ _ | refine Below.alloc ?_ (by first | omega | (simp; done) | (simp; omega)) _ | refine Below.setCell ?_ (by first | omega | (simp; done) | (simp; omega)) _))
            have hnW : w2.heap.size < W.heap.size := by rw [hW]; simp
            have x0 : W.cell? ⟨w2.heap.size, 0, none⟩ = some (.slice PT T.pairs.length pt) := by rw [hW]; simp [go_sem]
            have x1 : W.cell? ⟨w2.heap.size, 1, none⟩ = some (.slice QT T.queue.length qt) := by rw [hW]; simp [go_sem]
            have HXX := hid (And.intro x0 x1)
            clear hW
            have bwW : Below w.heap.size w W := bwr.trans ((bw2.trans (b2W.mono bw2.size)).mono bwr.size)
            have hrW : wr.heap.size ≤ W.heap.size := Nat.le_trans bw2.size b2W.size
            have hrr : w.heap.size ≤ wr.heap.size := bwr.size
            have HBW := hid bwW
            have HRR := hid (fun X (hX : Below W.heap.size W X) => show Calls Try.prog 52 #[.slice A l.length c, .int .u64 upto] X (GivesIn T X) from by
              rw [HT.out]
              exact refreplay_any l A c upto X ((HA.out.below (bwW.trans (hX.mono bwW.size))).more (bwW.trans (hX.mono bwW.size)).size) hc hm (by omega))
            have HTI := hid (fun X (hX : Below W.heap.size W X) => in_below (in_below HO.out.in_ b2W) hX)
            have HOX := hid (fun X (hX : Below W.heap.size W X) => (HO.out.below b2W).below hX)
            clear bwr bw2 b2W bwW
            go_region_held3 (fun w' => w'.cell? ⟨w2.heap.size, 0, none⟩ = some (.slice PT T.pairs.length pt) ∧ w'.cell? ⟨w2.heap.size, 1, none⟩ = some (.slice QT T.queue.length qt)) (first | exact kept2 (W := W) (by repeat (first | with_reducible exact Below.refl _ _ | with_reducible assumption | with_reducible refine Below.drew ?_ | with_reducible refine below_drewN ?_ _ | with_reducible refine Below.alloc ?_ (by first | omega | (simp; done) | (simp; omega)) _ | with_reducible refine Below.setCell ?_ (by first | omega | (simp; done) | (simp; omega)) _)) hnW HXX.out | go_keep) (first | (go_at_call 52; refine (HRR.out _ ?_).mono ?_; (exact (by repeat (first | with_reducible exact Below.refl _ _ | with_reducible assumption | with_reducible refine Below.drew ?_ | with_reducible refine below_drewN ?_ _ | with_reducible refine Below.alloc ?_ (by first | omega | (simp; done) | (simp; omega)) _ | with_reducible refine Below.setCell ?_ (by first | omega | (simp; done) | (simp; omega)) _))); rintro e wR ⟨PR, pr, QR, qr, rfl, hinR, hlowR, hbR⟩; have stR : Below W.heap.size W wR := (by refine Below.trans ?_ (hbR.mono ?_); exact (by repeat (first | with_reducible exact Below.refl _ _ | with_reducible assumption | with_reducible refine Below.drew ?_ | with_reducible refine below_drewN ?_ _ | with_reducible refine Below.alloc ?_ (by first | omega | (simp; done) | (simp; omega)) _ | with_reducible refine Below.setCell ?_ (by first | omega | (simp; done) | (simp; omega)) _)); (first | exact Nat.le_refl _ | (simp; done)))) | (go_at_call 27; refine (same_shelf T PT pt QT qt PR pr QR qr _ ?_ ?_).mono ?_; (exact HTI.out _ (by repeat (first | with_reducible exact Below.refl _ _ | with_reducible assumption | with_reducible refine Below.drew ?_ | with_reducible refine below_drewN ?_ _ | with_reducible refine Below.alloc ?_ (by first | omega | (simp; done) | (simp; omega)) _ | with_reducible refine Below.setCell ?_ (by first | omega | (simp; done) | (simp; omega)) _))); (exact in_below hinR (by repeat (first | with_reducible exact Below.refl _ _ | with_reducible assumption | with_reducible refine Below.drew ?_ | with_reducible refine below_drewN ?_ _ | with_reducible refine Below.alloc ?_ (by first | omega | (simp; done) | (simp; omega)) _ | with_reducible refine Below.setCell ?_ (by first | omega | (simp; done) | (simp; omega)) _))); rintro e wS ⟨rfl, hbS⟩; have stS : Below W.heap.size W wS := (by refine Below.trans ?_ (hbS.mono ?_); exact (by repeat (first | with_reducible exact Below.refl _ _ | with_reducible assumption | with_reducible refine Below.drew ?_ | with_reducible refine below_drewN ?_ _ | with_reducible refine Below.alloc ?_ (by first | omega | (simp; done) | (simp; omega)) _ | with_reducible refine Below.setCell ?_ (by first | omega | (simp; done) | (simp; omega)) _)); (first | exact Nat.le_refl _ | (simp; done) | exact stR.size))))
            have HST2 := hid stS
            have hzS := stS.size
            clear hinR hlowR hbR stR hbS stS HRR HTI
            go_wp2_with fail
            refine (overShelf_any T wr.heap.size PT pt QT qt _ (HOX.out _ ?_) ?_).mono ?_
            · have := HST2.out
              exact (by repeat (first | with_reducible exact Below.refl _ _ | with_reducible assumption | with_reducible refine Below.drew ?_ | with_reducible refine below_drewN ?_ _ | with_reducible refine Below.alloc ?_ (by first | omega | (simp; done) | (simp; omega)) _ | with_reducible refine Below.setCell ?_ (by first | omega | (simp; done) | (simp; omega)) _))
            · first | omega | (simp; omega)
            rintro e w5 ⟨rfl, hb5⟩
            have bw5 : Below w.heap.size w w5 := (HBW.out.trans (HST2.out.mono HBW.out.size)).trans (hb5.mono hrr)
            have HB5 := hid bw5
            clear hb5 HOX HST2
            go_wp2_with fail
            refine (replay_any l A c upto _ ((HA.out.below bw5).more bw5.size) hc hm (by omega)).mono ?_
            rintro e w6 ⟨PV, pv, QV, qv, rfl, hown6, hb6⟩
            rw [← HT.out] at hown6 ⊢
            have HO6 := hid hown6.in_
            have bw6 : Below w.heap.size w w6 := bw5.trans (hb6.mono bw5.size)
            clear hown6 hb6
            go_wp2_with fail
            refine (refreplay_any l A c upto _ ((HA.out.below bw6).more bw6.size) hc hm (by omega)).mono ?_
            rintro e w7 ⟨PU, pu, QU, qu, rfl, hin7, hlow7, hb7⟩
            rw [← HT.out] at hin7 ⊢
            have bw7 : Below w.heap.size w w7 := bw6.trans (hb7.mono bw6.size)
            have HI7 := hid hin7
            have HI6 := hid (in_below HO6.out hb7)
            clear hin7 hlow7 hb7
            go_wp2_with fail
            refine (same_shelf T PV pv QV qv PU pu QU qu _ HI6.out HI7.out).mono ?_
            rintro e w8 ⟨rfl, hb8⟩
            have bw8 : Below w.heap.size w w8 := bw7.trans (hb8.mono bw7.size)
            go_wp2_with fail
            refine (awake15 _).mono ?_
            rintro e w9 ⟨rfl, hb9⟩
            go_wp2
            go_ret
            exact ⟨rfl, bw8.trans (hb9.mono bw8.size)⟩
end Go.Proofs.Ythpegmeebhkhbaa
