/- What an effect does to a store: by the reference, and by the program; one after another. -/
import Derived.Test.YthpegmeebhkhbaaPut2
import Derived.Test.YthpegmeebhkhbaaApp
namespace Go.Proofs.Ythpegmeebhkhbaa
open Go.RowKit

structure Eff where
  kind : Int
  key : ByteArray
  val : ByteArray
  id : Int
  ver : Int
  epoch : Int
  group : Int
  deriving DecidableEq
def Eff.enc (e : Eff) : List Value := [.int .i64 e.kind, .string e.key, .string e.val, .int .u64 e.id, .int .u64 e.ver, .int .u64 e.epoch, .int .i64 e.group]
theorem Eff.enc_len (e : Eff) : e.enc.length = 7 := rfl
theorem Eff.enc_one (e : Eff) : ∀ u ∈ e.enc, u.oneCell' = true := by
  intro u hu
  simp only [Eff.enc, List.mem_cons, List.not_mem_nil, or_false] at hu
  rcases hu with rfl | rfl | rfl | rfl | rfl | rfl | rfl <;> rfl
def doE (e : Eff) (s : Shelf) : Shelf :=
  if e.kind = 1 then ⟨setP s.pairs e.key e.val, s.queue⟩ else if e.kind = 2 then ⟨dropK e.key s.pairs, s.queue⟩ else if e.kind = 3 then ⟨s.pairs, s.queue ++ [e.val]⟩ else if e.kind = 4 then ⟨s.pairs, s.queue.tail⟩ else s
theorem doE_len (e : Eff) (s : Shelf) : (doE e s).pairs.length ≤ s.pairs.length + 1 ∧ (doE e s).queue.length ≤ s.queue.length + 1 := by
  have h1 := setP_len s.pairs e.key e.val
  have h2 := dropK_le s.pairs e.key
  unfold doE
  repeat' split
  all_goals (refine ⟨?_, ?_⟩ <;> first | omega | (simp; done) | (simp; omega))
def replay (l : List Eff) (upto : Int) : Shelf := l.foldl (fun s e => if e.epoch ≤ upto then doE e s else s) ⟨[], []⟩
theorem replay_succ {l : List Eff} {k : Nat} (hk : k < l.length) (upto : Int) : replay (l.take (k + 1)) upto = if l[k].epoch ≤ upto then doE l[k] (replay (l.take k) upto) else replay (l.take k) upto := by
  rw [List.take_succ_eq_append_getElem hk, replay, List.foldl_append]
  rfl
theorem replay_len (upto : Int) : ∀ (l : List Eff) (s : Shelf), (l.foldl (fun s e => if e.epoch ≤ upto then doE e s else s) s).pairs.length ≤ s.pairs.length + l.length ∧ (l.foldl (fun s e => if e.epoch ≤ upto then doE e s else s) s).queue.length ≤ s.queue.length + l.length
  | [], s => ⟨Nat.le_refl _, Nat.le_refl _⟩
  | e :: l, s => by
    have h := replay_len upto l (if e.epoch ≤ upto then doE e s else s)
    have h1 := doE_len e s
    simp only [List.foldl_cons, List.length_cons]
    split at h <;> split <;> first | omega | contradiction
theorem replay_take (l : List Eff) (k : Nat) (upto : Int) : (replay (l.take k) upto).pairs.length ≤ l.length ∧ (replay (l.take k) upto).queue.length ≤ l.length := by
  have h := replay_len upto (l.take k) ⟨[], []⟩
  simp only [List.length_take, List.length_nil] at h
  exact ⟨by unfold replay; omega, by unfold replay; omega⟩
/-- the world of a call that has boxed a store and an effect -/
theorem in_below {w W : World} {PA : Option Addr} {pc : Nat} {QA : Option Addr} {qc : Nat} {s : Shelf} (h : ShIn w w.heap.size PA pc QA qc s) (hb : Below w.heap.size w W) : ShIn W W.heap.size PA pc QA qc s := (h.below hb).more hb.size
/-- a store as a result that is of the call's own, or the one that was handed in -/
def GivesTo (PA0 QA0 : Option Addr) (s0 s : Shelf) (w : World) (e : Ending) (w' : World) : Prop :=
  ∃ PA pc QA qc, e = .returned (.agg #[.slice PA s.pairs.length pc, .slice QA s.queue.length qc]) ∧ ShIn w' w'.heap.size PA pc QA qc s ∧
    (∀ lo, lo ≤ w.heap.size → LowL lo PA0 s0.pairs ∧ LowL lo QA0 s0.queue → LowL lo PA s.pairs ∧ LowL lo QA s.queue) ∧ Below w.heap.size w w'
theorem ShIn.lowCell {w : World} {B lo : Nat} {PA : Option Addr} {pc : Nat} {QA : Option Addr} {qc : Nat} {s : Shelf} (h : ShIn w B PA pc QA qc s) (hl : LowL lo PA s.pairs ∧ LowL lo QA s.queue) {p : Addr} (hp : p.block < lo) (u : Value) : ShIn (w.setCell p u) B PA pc QA qc s :=
  ⟨h.pairs.lowCell hl.1 hp u, h.plen, h.pmax, h.queue.lowCell hl.2 hp u, h.qlen, h.qmax⟩
set_option maxHeartbeats 4000000 in
set_option maxRecDepth 100000 in
theorem refdo_any (s : Shelf) (PA : Option Addr) (pc : Nat) (QA : Option Addr) (qc : Nat) (f : Eff) (w : World) (h : ShIn w w.heap.size PA pc QA qc s) (hp : s.pairs.length ≤ 900000) (hq : s.queue.length ≤ 900000) :
    Calls Try.prog 51 #[.agg #[.slice PA s.pairs.length pc, .slice QA s.queue.length qc], .agg #[.int .i64 f.kind, .string f.key, .string f.val, .int .u64 f.id, .int .u64 f.ver, .int .u64 f.epoch, .int .i64 f.group]] w (GivesTo PA QA s (doE f s) w) := by
  have H := hid h
  have HP := hid hp
  have HQ := hid hq
  obtain ⟨kind, key, val, id, ver, epoch, group⟩ := f
  clear h hp hq
  by_cases h1 : kind = 1
  · subst h1
    have hd : doE ⟨1, key, val, id, ver, epoch, group⟩ s = ⟨setP s.pairs key val, s.queue⟩ := rfl
    rw [hd]
    clear hd
    go_enter Try.func51, Try.ntmps51
    go_wp2_with fail
    refine (refput_any s PA pc QA qc key val _ (in_below H.out (by repeat (first | exact Below.refl _ _ | assumption | refine Below.drew ?_ | refine below_drewN ?_ _ | refine Below.alloc ?_ (by first | omega | (simp; done) | (simp; omega)) _ | refine Below.setCell ?_ (by first | omega | (simp; done) | (simp; omega)) _))) HP.out HQ.out).mono ?_
    rintro e w1 ⟨PX, px, QX, qx, rfl, hin, hlow, hb⟩
    have hz := hb.size
    simp only [World.size_alloc] at hz
    have R2 : w1.heap[w.heap.size + 1 + 1]? = some (.cells #[.slice none 0 0, .slice none 0 0] 41 (0, 0)) := (hb.block _ (by simp)).trans (by rw [heap_alloc_if, if_pos (by simp)])
    have o0 := cell_of_row w1 _ 0 _ _ _ R2
    have o1 := cell_of_row w1 _ 1 _ _ _ R2
    have g0 := frozen_of_row w1 _ 0 _ _ R2
    have g1 := frozen_of_row w1 _ 1 _ _ R2
    have hl3 : w.heap.size + 1 + 1 < w1.heap.size := by omega
    have hbw : Below w.heap.size w w1 := Below.trans (by repeat (first | exact Below.refl _ _ | assumption | refine Below.drew ?_ | refine below_drewN ?_ _ | refine Below.alloc ?_ (by first | omega | (simp; done) | (simp; omega)) _ | refine Below.setCell ?_ (by first | omega | (simp; done) | (simp; omega)) _)) (hb.mono (show w.heap.size ≤ _ from (by first | omega | (simp; done) | (simp; omega))))
    have HIN := hid hin
    have HLOW := hid hlow
    clear hin hlow hb R2
    go_wp2
    refine bodyPost_ret (v := .agg #[.slice PX (setP s.pairs key val).length px, .slice QX s.queue.length qx]) (by simp [results, Try.results51, go_sem, o0, o1]) rfl ⟨PX, px, QX, qx, rfl, ?_, fun lo hlo _ => ⟨HLOW.out.1.mono (by simp; omega), HLOW.out.2.mono (by simp; omega)⟩, (by repeat (first | exact Below.refl _ _ | assumption | refine Below.drew ?_ | refine below_drewN ?_ _ | refine Below.alloc ?_ (by first | omega | (simp; done) | (simp; omega)) _ | refine Below.setCell ?_ (by first | omega | (simp; done) | (simp; omega)) _))⟩
    simpa using (HIN.out.lowCell (p := ⟨w.heap.size + 1 + 1, 0, none⟩) HLOW.out (by simp) (.slice PX _ px)).lowCell (p := ⟨w.heap.size + 1 + 1, 1, none⟩) HLOW.out (by simp) (.slice QX _ qx)
  by_cases h2 : kind = 2
  · subst h2
    have hd : doE ⟨2, key, val, id, ver, epoch, group⟩ s = ⟨dropK key s.pairs, s.queue⟩ := rfl
    rw [hd]
    clear hd
    go_enter Try.func51, Try.ntmps51
    go_wp2_with fail
    refine (refdel_any s PA pc QA qc key _ (in_below H.out (by repeat (first | exact Below.refl _ _ | assumption | refine Below.drew ?_ | refine below_drewN ?_ _ | refine Below.alloc ?_ (by first | omega | (simp; done) | (simp; omega)) _ | refine Below.setCell ?_ (by first | omega | (simp; done) | (simp; omega)) _))) HP.out HQ.out).mono ?_
    rintro e w1 ⟨PX, px, QX, qx, rfl, hin, hlow, hb⟩
    have hz := hb.size
    simp only [World.size_alloc] at hz
    have R2 : w1.heap[w.heap.size + 1 + 1]? = some (.cells #[.slice none 0 0, .slice none 0 0] 41 (0, 0)) := (hb.block _ (by simp)).trans (by rw [heap_alloc_if, if_pos (by simp)])
    have o0 := cell_of_row w1 _ 0 _ _ _ R2
    have o1 := cell_of_row w1 _ 1 _ _ _ R2
    have g0 := frozen_of_row w1 _ 0 _ _ R2
    have g1 := frozen_of_row w1 _ 1 _ _ R2
    have hl3 : w.heap.size + 1 + 1 < w1.heap.size := by omega
    have hbw : Below w.heap.size w w1 := Below.trans (by repeat (first | exact Below.refl _ _ | assumption | refine Below.drew ?_ | refine below_drewN ?_ _ | refine Below.alloc ?_ (by first | omega | (simp; done) | (simp; omega)) _ | refine Below.setCell ?_ (by first | omega | (simp; done) | (simp; omega)) _)) (hb.mono (show w.heap.size ≤ _ from (by first | omega | (simp; done) | (simp; omega))))
    have HIN := hid hin
    have HLOW := hid hlow
    clear hin hlow hb R2
    go_wp2
    refine bodyPost_ret (v := .agg #[.slice PX (dropK key s.pairs).length px, .slice QX s.queue.length qx]) (by simp [results, Try.results51, go_sem, o0, o1]) rfl ⟨PX, px, QX, qx, rfl, ?_, fun lo hlo _ => ⟨HLOW.out.1.mono (by simp; omega), HLOW.out.2.mono (by simp; omega)⟩, (by repeat (first | exact Below.refl _ _ | assumption | refine Below.drew ?_ | refine below_drewN ?_ _ | refine Below.alloc ?_ (by first | omega | (simp; done) | (simp; omega)) _ | refine Below.setCell ?_ (by first | omega | (simp; done) | (simp; omega)) _))⟩
    simpa using (HIN.out.lowCell (p := ⟨w.heap.size + 1 + 1, 0, none⟩) HLOW.out (by simp) (.slice PX _ px)).lowCell (p := ⟨w.heap.size + 1 + 1, 1, none⟩) HLOW.out (by simp) (.slice QX _ qx)
  by_cases h3 : kind = 3
  · subst h3
    have hd : doE ⟨3, key, val, id, ver, epoch, group⟩ s = ⟨s.pairs, s.queue ++ [val]⟩ := rfl
    rw [hd]
    clear hd
    go_enter Try.func51, Try.ntmps51
    go_wp2_with fail
    refine (refpush_any s PA pc QA qc val _ (in_below H.out (by repeat (first | exact Below.refl _ _ | assumption | refine Below.drew ?_ | refine below_drewN ?_ _ | refine Below.alloc ?_ (by first | omega | (simp; done) | (simp; omega)) _ | refine Below.setCell ?_ (by first | omega | (simp; done) | (simp; omega)) _))) HP.out HQ.out).mono ?_
    rintro e w1 ⟨PX, px, QX, qx, rfl, hin, hlow, hb⟩
    have hz := hb.size
    simp only [World.size_alloc] at hz
    have R2 : w1.heap[w.heap.size + 1 + 1]? = some (.cells #[.slice none 0 0, .slice none 0 0] 41 (0, 0)) := (hb.block _ (by simp)).trans (by rw [heap_alloc_if, if_pos (by simp)])
    have o0 := cell_of_row w1 _ 0 _ _ _ R2
    have o1 := cell_of_row w1 _ 1 _ _ _ R2
    have g0 := frozen_of_row w1 _ 0 _ _ R2
    have g1 := frozen_of_row w1 _ 1 _ _ R2
    have hl3 : w.heap.size + 1 + 1 < w1.heap.size := by omega
    have hbw : Below w.heap.size w w1 := Below.trans (by repeat (first | exact Below.refl _ _ | assumption | refine Below.drew ?_ | refine below_drewN ?_ _ | refine Below.alloc ?_ (by first | omega | (simp; done) | (simp; omega)) _ | refine Below.setCell ?_ (by first | omega | (simp; done) | (simp; omega)) _)) (hb.mono (show w.heap.size ≤ _ from (by first | omega | (simp; done) | (simp; omega))))
    have HIN := hid hin
    have HLOW := hid hlow
    clear hin hlow hb R2
    go_wp2
    refine bodyPost_ret (v := .agg #[.slice PX s.pairs.length px, .slice QX (s.queue ++ [val]).length qx]) (by simp [results, Try.results51, go_sem, o0, o1]) rfl ⟨PX, px, QX, qx, rfl, ?_, fun lo hlo _ => ⟨HLOW.out.1.mono (by simp; omega), HLOW.out.2.mono (by simp; omega)⟩, (by repeat (first | exact Below.refl _ _ | assumption | refine Below.drew ?_ | refine below_drewN ?_ _ | refine Below.alloc ?_ (by first | omega | (simp; done) | (simp; omega)) _ | refine Below.setCell ?_ (by first | omega | (simp; done) | (simp; omega)) _))⟩
    simpa using (HIN.out.lowCell (p := ⟨w.heap.size + 1 + 1, 0, none⟩) HLOW.out (by simp) (.slice PX _ px)).lowCell (p := ⟨w.heap.size + 1 + 1, 1, none⟩) HLOW.out (by simp) (.slice QX _ qx)
  by_cases h4 : kind = 4
  · subst h4
    have hd : doE ⟨4, key, val, id, ver, epoch, group⟩ s = ⟨s.pairs, s.queue.tail⟩ := rfl
    rw [hd]
    clear hd
    go_enter Try.func51, Try.ntmps51
    go_wp2_with fail
    refine (refpop_any s PA pc QA qc _ (in_below H.out (by repeat (first | exact Below.refl _ _ | assumption | refine Below.drew ?_ | refine below_drewN ?_ _ | refine Below.alloc ?_ (by first | omega | (simp; done) | (simp; omega)) _ | refine Below.setCell ?_ (by first | omega | (simp; done) | (simp; omega)) _))) HP.out HQ.out).mono ?_
    rintro e w1 ⟨PX, px, QX, qx, rfl, hin, hlow, hb⟩
    have hz := hb.size
    simp only [World.size_alloc] at hz
    have R2 : w1.heap[w.heap.size + 1 + 1]? = some (.cells #[.slice none 0 0, .slice none 0 0] 41 (0, 0)) := (hb.block _ (by simp)).trans (by rw [heap_alloc_if, if_pos (by simp)])
    have o0 := cell_of_row w1 _ 0 _ _ _ R2
    have o1 := cell_of_row w1 _ 1 _ _ _ R2
    have g0 := frozen_of_row w1 _ 0 _ _ R2
    have g1 := frozen_of_row w1 _ 1 _ _ R2
    have hl3 : w.heap.size + 1 + 1 < w1.heap.size := by omega
    have hbw : Below w.heap.size w w1 := Below.trans (by repeat (first | exact Below.refl _ _ | assumption | refine Below.drew ?_ | refine below_drewN ?_ _ | refine Below.alloc ?_ (by first | omega | (simp; done) | (simp; omega)) _ | refine Below.setCell ?_ (by first | omega | (simp; done) | (simp; omega)) _)) (hb.mono (show w.heap.size ≤ _ from (by first | omega | (simp; done) | (simp; omega))))
    have HIN := hid hin
    have HLOW := hid hlow
    clear hin hlow hb R2
    go_wp2
    refine bodyPost_ret (v := .agg #[.slice PX s.pairs.length px, .slice QX s.queue.tail.length qx]) (by simp [results, Try.results51, go_sem, o0, o1]) rfl ⟨PX, px, QX, qx, rfl, ?_, fun lo hlo _ => ⟨HLOW.out.1.mono (by simp; omega), HLOW.out.2.mono (by simp; omega)⟩, (by repeat (first | exact Below.refl _ _ | assumption | refine Below.drew ?_ | refine below_drewN ?_ _ | refine Below.alloc ?_ (by first | omega | (simp; done) | (simp; omega)) _ | refine Below.setCell ?_ (by first | omega | (simp; done) | (simp; omega)) _))⟩
    simpa using (HIN.out.lowCell (p := ⟨w.heap.size + 1 + 1, 0, none⟩) HLOW.out (by simp) (.slice PX _ px)).lowCell (p := ⟨w.heap.size + 1 + 1, 1, none⟩) HLOW.out (by simp) (.slice QX _ qx)
  · have hd : doE ⟨kind, key, val, id, ver, epoch, group⟩ s = s := by simp [doE, h1, h2, h3, h4]
    rw [hd]
    clear hd
    have g1 : (kind == 1) = false := by simpa using h1
    have g2 : (kind == 2) = false := by simpa using h2
    have g3 : (kind == 3) = false := by simpa using h3
    have g4 : (kind == 4) = false := by simpa using h4
    clear h1 h2 h3 h4
    go_enter Try.func51, Try.ntmps51
    go_wp2_with fail
    refine bodyPost_ret (v := .agg #[.slice PA s.pairs.length pc, .slice QA s.queue.length qc]) (by simp [results, Try.results51, go_sem]) rfl ⟨PA, pc, QA, qc, rfl, (in_below H.out (by repeat (first | exact Below.refl _ _ | assumption | refine Below.drew ?_ | refine below_drewN ?_ _ | refine Below.alloc ?_ (by first | omega | (simp; done) | (simp; omega)) _ | refine Below.setCell ?_ (by first | omega | (simp; done) | (simp; omega)) _))), fun lo hlo h => h, (by repeat (first | exact Below.refl _ _ | assumption | refine Below.drew ?_ | refine below_drewN ?_ _ | refine Below.alloc ?_ (by first | omega | (simp; done) | (simp; omega)) _ | refine Below.setCell ?_ (by first | omega | (simp; done) | (simp; omega)) _))⟩
end Go.Proofs.Ythpegmeebhkhbaa
