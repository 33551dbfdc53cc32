/- fuseelaw25.large: what is not large is small. -/
import Derived.Test.YtamcehfcjcmpmaaGreatDoorOpenCalls
import Derived.Test.YtamcehfcjcmpmaaGreatDoorIdl2
import Derived.Test.YtamcehfcjcmpmaaGreatDoorSrT
/- fuseelaw0.Weight, at the bound of 600: a call that weighs no more has a short, flat group. -/
namespace Go.Proofs.YtamcehfcjcmpmaaGreatDoor
open Go.RowKit

def GivesWt (g : List Call0) (w : World) (e : Ending) (w' : World) : Prop := ∃ r : Int, e = .returned (.int .i64 r) ∧ Below w.heap.size w w' ∧ (r ≤ 600 → g.length ≤ 600 ∧ ∀ x ∈ g, x.gn = 0)
theorem flat_more {g : List Call0} {k : Nat} (hk : k < g.length) (h : ∀ x ∈ g.take k, x.gn = 0) (h1 : g[k].gn = 0) : ∀ x ∈ g.take (k + 1), x.gn = 0 := by
  intro x hx
  rw [List.take_succ_eq_append_getElem hk] at hx
  rcases List.mem_append.1 hx with h2 | h2
  · exact h x h2
  · rw [List.mem_singleton] at h2
    rw [h2]
    exact h1
theorem GivesWt.big {g : List Call0} {w w' : World} (hb : Below w.heap.size w w') {r : Int} (hr : 600 < r) : GivesWt g w (.returned (.int .i64 r)) w' := ⟨r, rfl, hb, fun h => absurd h (by omega)⟩
theorem GivesWt.fits {g : List Call0} {w w' : World} (hb : Below w.heap.size w w') (h1 : g.length ≤ 600) (h2 : ∀ x ∈ g, x.gn = 0) {r : Int} : GivesWt g w (.returned (.int .i64 r)) w' := ⟨r, rfl, hb, fun _ => ⟨h1, h2⟩⟩
set_option maxHeartbeats 4000000 in
set_option maxRecDepth 100000 in
theorem weight_any (c : Call0) (g : List Call0) (w : World) (hc : CallIn w w.heap.size c g) :
    Calls Tryz.prog 15 #[.agg #[.int .i64 c.kind, .string c.key, .string c.val, .string c.to, .slice c.gA c.gn c.gc], .int .i64 600] w (GivesWt g w) := by
  obtain ⟨ck, ckey, cval, cto, gA, gn, gc⟩ := c
  have HC := hid hc
  have hgn := hc.len
  simp only at hgn
  subst hgn
  have hcap := hc.cap
  have hmax := hc.max
  simp only at hcap hmax
  clear hc
  by_cases hsm : ckey.size ≤ 600 ∧ cval.size ≤ 600 ∧ cto.size ≤ 600 ∧ g.length ≤ 600
  case neg =>
    go_enter Tryz.func15, Tryz.ntmps15
    go_wp2_with fail
    all_goals first | (exfalso; omega) | (go_ret; exact GivesWt.big (by repeat (first | exact Below.refl _ _ | assumption | refine Below.drew ?_ | refine below_drewN ?_ _ | refine Below.alloc ?_ (by first | omega | (simp; done) | (simp; omega)) _ | refine Below.setCell ?_ (by first | omega | (simp; done) | (simp; omega)) _)) (by omega))
  obtain ⟨sm1, sm2, sm3, sm4⟩ := hsm
  go_enter Tryz.func15, Tryz.ntmps15
  go_wp2_with fail
  go_loopw [5, 6] (fun v5 v6 wr => ∃ k n : Nat, k ≤ g.length ∧ n ≤ 2400 ∧ v6 = .int .i64 k ∧ v5 = .int .i64 n ∧ Below (w.heap.size + 1) (w.alloc (.cells #[.int .i64 ck, .string ckey, .string cval, .string cto, .slice gA g.length gc] 46)) wr ∧ ∀ x ∈ g.take k, x.gn = 0) (fun _ v6 _ => g.length - (intOf v6).toNat)
  case atStart => exact ⟨0, ckey.size + cval.size + cto.size, Nat.zero_le _, by omega, rfl, by go_num, Below.refl _ _, by simp⟩
  case round =>
    obtain ⟨k, n, hkl, hn, rfl, rfl, hb, hfl⟩ := hrel
    have hw : Below w.heap.size w _ := Below.trans (by repeat (first | exact Below.refl _ _ | assumption | refine Below.drew ?_ | refine below_drewN ?_ _ | refine Below.alloc ?_ (by first | omega | (simp; done) | (simp; omega)) _ | refine Below.setCell ?_ (by first | omega | (simp; done) | (simp; omega)) _)) (hb.mono (show w.heap.size ≤ _ from (by first | omega | (simp; done) | (simp; omega))))
    have HFL := hid hfl
    clear hfl
    have t4 := (hb.cell (p := ⟨w.heap.size, 4, none⟩) (by simp)).trans (show _ = some (Value.slice gA g.length gc) from (by simp [go_sem]))
    have hlw : w.heap.size < _ := new_size hb
    by_cases hlt : k < g.length
    · by_cases hn6 : n ≤ 600
      · obtain ⟨b, off, hA, hB, c0, c1, c2, c3, c4⟩ := (HC.out.arr.below hw).call0 hlt
        simp only at hA
        subst hA
        go_wp2_with fail
        all_goals first | (go_ret; exact GivesWt.big (by repeat (first | exact Below.refl _ _ | assumption | refine Below.drew ?_ | refine below_drewN ?_ _ | refine Below.alloc ?_ (by first | omega | (simp; done) | (simp; omega)) _ | refine Below.setCell ?_ (by first | omega | (simp; done) | (simp; omega)) _)) (by omega)) | (refine ⟨⟨k + 1, n + g[k].key.size + g[k].val.size + g[k].to.size, by omega, by omega, by go_num, by go_num, (by repeat (first | exact Below.refl _ _ | assumption | refine Below.drew ?_ | refine below_drewN ?_ _ | refine Below.alloc ?_ (by first | omega | (simp; done) | (simp; omega)) _ | refine Below.setCell ?_ (by first | omega | (simp; done) | (simp; omega)) _)), flat_more hlt HFL.out (by omega)⟩, by simp [intOf]; omega⟩)
      · go_wp2_with fail
        all_goals (go_ret; exact GivesWt.big hw (by omega))
    · go_wp2_with fail
      all_goals (go_ret; exact GivesWt.fits hw sm4 fun x hx => HFL.out x (by rwa [List.take_of_length_le (by omega)]))
end Go.Proofs.YtamcehfcjcmpmaaGreatDoor
/- Arguments opened: lists of stories. -/
namespace Go.Proofs.YtamcehfcjcmpmaaGreatDoor
open Go.RowKit Go.Deep Go.ChangeShapes Go.WideShapes

/-- a story as it lies in memory, with its group, its hits and its pairs; nothing is said of their sizes -/
structure StRaw (w : World) (B : Nat) (x : Item) : Prop where
  call : CallIn w B x.s.c x.g
  deep : ∀ y ∈ x.g, ∃ g, CallIn w B y g
  ans : ∃ ps, AnsIn w B x.s ps x.hs
theorem StRaw.below {w w' : World} {B : Nat} {x : Item} (h : StRaw w B x) (hb : Below B w w') : StRaw w' B x :=
  ⟨h.call.below hb, fun y hy => by obtain ⟨g, hg⟩ := h.deep y hy; exact ⟨g, hg.below hb⟩, by obtain ⟨ps, hp⟩ := h.ans; exact ⟨ps, hp.below hb⟩⟩
theorem StRaw.more {w : World} {B B' : Nat} {x : Item} (h : StRaw w B x) (hB : B ≤ B') : StRaw w B' x :=
  ⟨h.call.more hB, fun y hy => by obtain ⟨g, hg⟩ := h.deep y hy; exact ⟨g, hg.more hB⟩, by obtain ⟨ps, hp⟩ := h.ans; exact ⟨ps, hp.more hB⟩⟩
structure StsRaw (w : World) (B : Nat) (A : Option Addr) (c : Nat) (xs : List Item) : Prop where
  arr : Arr Story.enc 14 w B A (stories xs)
  each : ∀ x ∈ xs, StRaw w B x
  cap : xs.length ≤ c
  max : c ≤ 9223372036854775807
section
variable {H : Type} {en : TypeId × Value → H} {w : World} {sp : Nat → Bool} {held : Bool}
theorem list6 {α : Type} {l : List α} (h : l.length = 6) : ∃ a b c d e f, l = [a, b, c, d, e, f] := by
  match l, h with
  | [a, b, c, d, e, f], _ => exact ⟨a, b, c, d, e, f, rfl⟩
theorem list14 {α : Type} {l : List α} (h : l.length = 14) : ∃ a b c d e f g h i j k m n o, l = [a, b, c, d, e, f, g, h, i, j, k, m, n, o] := by
  match l, h with
  | [a, b, c, d, e, f, g, h, i, j, k, m, n, o], _ => exact ⟨a, b, c, d, e, f, g, h, i, j, k, m, n, o, rfl⟩
theorem trod_bit {n : Nat} {cs : List Value} {y : DataW H × List MemPlace} (h : DataW.trod en Tryz.prog w 0 sp held n 4 cs = some y) : ∃ a : Bool, cs = bit a ∧ True := by
  obtain ⟨s0, e0, _⟩ := DataW.trod_bool Tryz.underlying4 h
  exact ⟨s0, e0, trivial⟩
/-- an answer's six cells -/
theorem trod_ans {n : Nat} {cs : List Value} {y : DataW H × List MemPlace} (h : DataW.trod en Tryz.prog w 0 sp held n 50 cs = some y) :
    ∃ (code : Int) (fd : Bool) (vl : ByteArray) (pA : Option Addr) (pc : Nat) (hA : Option Addr) (hc : Nat) (ep : Int) (ps : List Pair) (hs : List Bool), cs = [.int .i64 code, .bool fd, .string vl, .slice pA ps.length pc, .slice hA hs.length hc, .int .u64 ep] ∧
      Arr Pair.enc 2 w w.heap.size pA ps ∧ ps.length ≤ pc ∧ pc ≤ 9223372036854775807 ∧ Arr bit 1 w w.heap.size hA hs ∧ hs.length ≤ hc ∧ hc ≤ 9223372036854775807 := by
  obtain ⟨xs, m, _, rfl, hl, hlen, hf⟩ := DataW.trod_struct Tryz.underlying50 h
  obtain ⟨c0, c1, c2, c3, c4, c5, rfl⟩ := list6 (hl.trans (by kernel_rfl))
  obtain ⟨y0, y1, y2, y3, y4, y5, rfl⟩ := list6 hlen
  have ki : Tryz.prog.cellsOf 34 = 1 := by kernel_rfl
  have kb : Tryz.prog.cellsOf 4 = 1 := by kernel_rfl
  have ks : Tryz.prog.cellsOf 9 = 1 := by kernel_rfl
  have kp : Tryz.prog.cellsOf 22 = 1 := by kernel_rfl
  have kh : Tryz.prog.cellsOf 47 = 1 := by kernel_rfl
  have ku : Tryz.prog.cellsOf 48 = 1 := by kernel_rfl
  have f0 : DataW.trod en Tryz.prog w 0 sp held m 34 [c0] = some y0 := by simpa [ki] using hf 0 _ rfl
  have f1 : DataW.trod en Tryz.prog w 0 sp held m 4 [c1] = some y1 := by simpa [kb] using hf 1 _ rfl
  have f2 : DataW.trod en Tryz.prog w 0 sp held m 9 [c2] = some y2 := by simpa [ks] using hf 2 _ rfl
  have f3 : DataW.trod en Tryz.prog w 0 sp held m 22 [c3] = some y3 := by simpa [kp] using hf 3 _ rfl
  have f4 : DataW.trod en Tryz.prog w 0 sp held m 47 [c4] = some y4 := by simpa [kh] using hf 4 _ rfl
  have f5 : DataW.trod en Tryz.prog w 0 sp held m 48 [c5] = some y5 := by simpa [ku] using hf 5 _ rfl
  obtain ⟨n0, e0, _, _⟩ := DataW.trod_int Tryz.underlying34 f0
  obtain ⟨b1, e1, _⟩ := DataW.trod_bool Tryz.underlying4 f1
  obtain ⟨s2, e2, _, _⟩ := DataW.trod_string Tryz.underlying9 f2
  obtain ⟨A, l, c, rfl, h2, h3, h4, _⟩ := arr_open Tryz.underlying22 (k := 2) (by kernel_rfl) (by omega) Pair.enc_len (fun _ => True) (fun n cs y hy => trod_pair hy) f3
  obtain ⟨A', l', c', rfl, h2', h3', h4', _⟩ := arr_open Tryz.underlying47 (k := 1) (by kernel_rfl) (by omega) bit_len (fun _ => True) (fun n cs y hy => trod_bit hy) f4
  obtain ⟨n5, e5, _, _⟩ := DataW.trod_int Tryz.underlying48 f5
  cases e0; cases e1; cases e2; cases e5
  exact ⟨n0, b1, s2, A, c, A', c', n5, l, l', rfl, h2, h3, h4, h2', h3', h4'⟩
set_option maxRecDepth 100000 in
theorem trod_story {n : Nat} {cs : List Value} {y : DataW H × List MemPlace} (h : DataW.trod en Tryz.prog w 0 sp held n 52 cs = some y) : ∃ s : Story, cs = s.enc ∧ ∃ g hs, StRaw w w.heap.size ⟨s, g, hs⟩ := by
  obtain ⟨xs, m, _, rfl, hl, hlen, hf⟩ := DataW.trod_struct Tryz.underlying52 h
  obtain ⟨c0, c1, c2, c3, c4, c5, c6, c7, c8, c9, c10, c11, c12, c13, rfl⟩ := list14 (hl.trans (by kernel_rfl))
  obtain ⟨y0, y1, y2, y3, y4, rfl⟩ := list5 hlen
  have ki : Tryz.prog.cellsOf 3 = 1 := by kernel_rfl
  have kc : Tryz.prog.cellsOf 46 = 5 := by kernel_rfl
  have ka : Tryz.prog.cellsOf 50 = 6 := by kernel_rfl
  have f0 : DataW.trod en Tryz.prog w 0 sp held m 3 [c0] = some y0 := by simpa [ki] using hf 0 _ rfl
  have f1 : DataW.trod en Tryz.prog w 0 sp held m 46 [c1, c2, c3, c4, c5] = some y1 := by simpa [kc] using hf 1 _ rfl
  have f2 : DataW.trod en Tryz.prog w 0 sp held m 50 [c6, c7, c8, c9, c10, c11] = some y2 := by simpa [ka] using hf 2 _ rfl
  have f3 : DataW.trod en Tryz.prog w 0 sp held m 3 [c12] = some y3 := by simpa [ki] using hf 3 _ rfl
  have f4 : DataW.trod en Tryz.prog w 0 sp held m 3 [c13] = some y4 := by simpa [ki] using hf 4 _ rfl
  obtain ⟨n0, e0, _, _⟩ := DataW.trod_int Tryz.underlying3 f0
  obtain ⟨c, hc, m', z, hz⟩ := trod_call f1
  obtain ⟨A, l, cc, h1, h2, h3, h4, h5⟩ := arr_open Tryz.underlying44 (k := 5) (by kernel_rfl) (by omega) Call0.enc_len (fun c => ∃ g, CallIn w w.heap.size c g) (fun n cs y hy => trod_call_in hy) hz
  injection h1 with e1 e2 e3
  obtain ⟨code, fd, vl, pA, pc, hA, hc', ep, ps, hs, e5, a1, a2, a3, a4, a5, a6⟩ := trod_ans f2
  obtain ⟨n3, e6, _, _⟩ := DataW.trod_int Tryz.underlying3 f3
  obtain ⟨n4, e7, _, _⟩ := DataW.trod_int Tryz.underlying3 f4
  cases e0; cases e5; cases e6; cases e7
  have hcc : [c1, c2, c3, c4, c5] = c.enc := hc
  cases hcc
  exact ⟨⟨n0, c, code, fd, vl, pA, ps.length, pc, hA, hs.length, hc', ep, n3, n4⟩, rfl, l, hs, ⟨⟨e1 ▸ h2, e2, e3 ▸ h3, e3 ▸ h4⟩, h5, ps, ⟨a1, rfl, a2, a3, a4, rfl, a5, a6⟩⟩⟩
theorem choose_items : ∀ (l : List Story), (∀ s ∈ l, ∃ g hs, StRaw w w.heap.size ⟨s, g, hs⟩) → ∃ xs : List Item, stories xs = l ∧ ∀ x ∈ xs, StRaw w w.heap.size x
  | [], _ => ⟨[], rfl, by simp⟩
  | s :: l, hc => by
    obtain ⟨g, hs, hg⟩ := hc s (by simp)
    obtain ⟨xs, h1, h2⟩ := choose_items l fun x hx => hc x (by simp [hx])
    refine ⟨⟨s, g, hs⟩ :: xs, by rw [← h1]; rfl, fun x hx => ?_⟩
    rcases List.mem_cons.1 hx with rfl | hx
    · exact hg
    · exact h2 x hx
set_option maxRecDepth 100000 in
theorem open_sts {r : Reach} {b0 : Nat} {v : Value} {d : DataW H} {p : List MemPlace} (hv : Value.okWide Tryz.prog w r b0 26 v) (h : DataW.Trod en Tryz.prog w 0 sp held 26 v d p) :
    ∃ (xs : List Item) (A : Option Addr) (c : Nat), v = .slice A xs.length c ∧ StsRaw w w.heap.size A c xs := by
  obtain ⟨a, len, cap, rfl⟩ := okWide_slice Tryz.underlying26 hv
  obtain ⟨fuel, hf⟩ := h
  have hf' : DataW.trod en Tryz.prog w 0 sp held fuel 26 [.slice a len cap] = some (d, p) := by simpa [Value.cells] using hf
  obtain ⟨A, l, c, h1, h2, h3, h4, h5⟩ := arr_open Tryz.underlying26 (k := 14) (by kernel_rfl) (by omega) Story.enc_len (fun s => ∃ g hs, StRaw w w.heap.size ⟨s, g, hs⟩) (fun n cs y hy => trod_story hy) hf'
  obtain ⟨xs, rfl, g2⟩ := choose_items l h5
  have e : (stories xs).length = xs.length := by simp [stories]
  rw [e] at h1 h3
  exact ⟨xs, A, c, h1, ⟨h2, g2, h3, h4⟩⟩
end
end Go.Proofs.YtamcehfcjcmpmaaGreatDoor
namespace Go.Proofs.YtamcehfcjcmpmaaGreatDoor
open Go.RowKit

/-- a story that is not large -/
structure Slim (x : Item) : Prop where
  grp : x.g.length ≤ 600
  flat : ∀ y ∈ x.g, y.gn = 0
  hits : x.s.hn ≤ 20
  prs : x.s.pn ≤ 20
structure NotLarge (s : Shelf) (xs : List Item) : Prop where
  len : xs.length ≤ 16
  pl : s.pairs.length ≤ 20
  ql : s.queue.length ≤ 20
  each : ∀ x ∈ xs, Slim x
  pk : ∀ p ∈ s.pairs, p.key.size ≤ 600 ∧ p.val.size ≤ 600
  qs : ∀ q ∈ s.queue, q.size ≤ 600
theorem NotLarge.small {s : Shelf} {xs : List Item} (h : NotLarge s xs) : Small s 0 :=
  ⟨by have := h.pl; omega, by have := h.ql; omega, fun p hp => by have := h.pk p hp; omega, fun q hq => by have := h.qs q hq; omega⟩
theorem Slim.stIn {w : World} {B : Nat} {x : Item} (h : Slim x) (hr : StRaw w B x) : StIn w B x.s := by
  obtain ⟨ps, hp⟩ := hr.ans
  refine ⟨2, ⟨x.g, hr.call, by have := h.grp; omega, fun y hy => ?_⟩, ps, x.hs, hp, by have := hp.plen; have := h.prs; omega, by have := hp.hlen; have := h.hits; omega⟩
  obtain ⟨g, hg⟩ := hr.deep y hy
  have h0 : g.length = 0 := by rw [← hg.len]; exact h.flat y hy
  exact ⟨g, hg, by omega, fun z hz => by rw [List.length_eq_zero_iff.1 h0] at hz; simp at hz⟩
theorem Slim.itemIn {w : World} {B : Nat} {x : Item} (h : Slim x) (hr : StRaw w B x) : ItemIn w B x := by
  obtain ⟨ps, hp⟩ := hr.ans
  exact ⟨hr.call, hp.harr, hp.hlen, by have := hp.hlen; have := h.hits; omega⟩
theorem StsRaw.stsIn {w : World} {B : Nat} {A : Option Addr} {c : Nat} {xs : List Item} (h : StsRaw w B A c xs) (hs : ∀ x ∈ xs, Slim x) : StsIn w B A c xs :=
  ⟨h.arr, fun x hx => (hs x hx).stIn (h.each x hx), fun x hx => (hs x hx).itemIn (h.each x hx), h.cap, h.max⟩
theorem stories_get (xs : List Item) (k : Nat) (h : k < (stories xs).length) (h' : k < xs.length) : (stories xs)[k] = xs[k].s := by simp [stories]
def GivesLg (s : Shelf) (xs : List Item) (w : World) (e : Ending) (w' : World) : Prop := ∃ r, e = .returned (.bool r) ∧ Below w.heap.size w w' ∧ (r = false → NotLarge s xs)
theorem GivesLg.yes {s : Shelf} {xs : List Item} {w w' : World} (h : Below w.heap.size w w') : GivesLg s xs w (.returned (.bool true)) w' := ⟨true, rfl, h, fun h => by cases h⟩
theorem GivesLg.no {s : Shelf} {xs : List Item} {w w' : World} (h : Below w.heap.size w w') (hn : NotLarge s xs) : GivesLg s xs w (.returned (.bool false)) w' := ⟨false, rfl, h, fun _ => hn⟩
theorem all_more {α : Type} {Q : α → Prop} {l : List α} {k : Nat} (hk : k < l.length) (h : ∀ x ∈ l.take k, Q x) (h1 : Q l[k]) : ∀ x ∈ l.take (k + 1), Q x := by
  intro x hx
  rw [List.take_succ_eq_append_getElem hk] at hx
  rcases List.mem_append.1 hx with h2 | h2
  · exact h x h2
  · rw [List.mem_singleton] at h2
    rw [h2]
    exact h1
theorem all_end {α : Type} {Q : α → Prop} {l : List α} {k : Nat} (hk : ¬ k < l.length) (h : ∀ x ∈ l.take k, Q x) : ∀ x ∈ l, Q x := fun x hx => h x (by rwa [List.take_of_length_le (by omega)])
set_option maxHeartbeats 4000000 in
set_option maxRecDepth 100000 in
theorem large25_any (s : Shelf) (PA : Option Addr) (pc : Nat) (QA : Option Addr) (qc : Nat) (xs : List Item) (A : Option Addr) (c : Nat) (w : World) (h : ShIn w w.heap.size PA pc QA qc s) (hx : StsRaw w w.heap.size A c xs) :
    Calls Tryz.prog 4 #[.agg #[.slice PA s.pairs.length pc, .slice QA s.queue.length qc], .slice A xs.length c] w (GivesLg s xs w) := by
  have H := hid h
  have HX := hid hx
  have hpl := h.plen
  have hpm := h.pmax
  have hql := h.qlen
  have hqm := h.qmax
  have hcl := hx.cap
  have hcm := hx.max
  have hlm : (stories xs).length = xs.length := by simp [stories]
  have HLM := hid hlm
  clear h hx hlm
  by_cases hsm : xs.length ≤ 16 ∧ s.pairs.length ≤ 20 ∧ s.queue.length ≤ 20
  case neg =>
    go_enter Tryz.func4, Tryz.ntmps4
    go_wp2_with fail
    all_goals first | (exfalso; omega) | (go_ret; exact GivesLg.yes (by repeat (first | exact Below.refl _ _ | assumption | refine Below.drew ?_ | refine below_drewN ?_ _ | refine Below.alloc ?_ (by first | omega | (simp; done) | (simp; omega)) _ | refine Below.setCell ?_ (by first | omega | (simp; done) | (simp; omega)) _)))
  obtain ⟨sm1, sm2, sm3⟩ := hsm
  go_enter Tryz.func4, Tryz.ntmps4
  go_wp2_with fail
  go_loopw [5] (fun i wr => ∃ k : Nat, k ≤ xs.length ∧ i = .int .i64 k ∧ Below (w.heap.size + 1) (w.alloc (.cells #[.slice PA s.pairs.length pc, .slice QA s.queue.length qc] 25)) wr ∧ ∀ x ∈ xs.take k, Slim x) (fun i _ => xs.length - (intOf i).toNat)
  case atStart => exact ⟨0, Nat.zero_le _, rfl, Below.refl _ _, by simp⟩
  case round =>
    obtain ⟨k, hkl, rfl, hb, hsl⟩ := hrel
    have hw : Below w.heap.size w _ := Below.trans (by repeat (first | exact Below.refl _ _ | assumption | refine Below.drew ?_ | refine below_drewN ?_ _ | refine Below.alloc ?_ (by first | omega | (simp; done) | (simp; omega)) _ | refine Below.setCell ?_ (by first | omega | (simp; done) | (simp; omega)) _)) (hb.mono (show w.heap.size ≤ _ from (by first | omega | (simp; done) | (simp; omega))))
    have HSL := hid hsl
    clear hsl
    have hlw : w.heap.size < _ := new_size hb
    by_cases hlt : k < xs.length
    · have hlt' : k < (stories xs).length := by rw [HLM.out]; exact hlt
      obtain ⟨b, off, hA, hB, hcells⟩ := (HX.out.arr.below hw).story hlt'
      rw [stories_get xs k hlt' hlt] at hcells
      obtain ⟨c0, c1, c2, c3, c4, c5, c6, c7, c8, c9, c10, c11, c12, c13⟩ := hcells
      subst hA
      have HR := hid (HX.out.each xs[k] (List.getElem_mem hlt))
      have WT : ∀ W, Below w.heap.size w W → Calls Tryz.prog 15 #[.agg #[.int .i64 xs[k].s.c.kind, .string xs[k].s.c.key, .string xs[k].s.c.val, .string xs[k].s.c.to, .slice xs[k].s.c.gA xs[k].s.c.gn xs[k].s.c.gc], .int .i64 600] W (GivesWt xs[k].g W) := fun W hW => weight_any xs[k].s.c xs[k].g W ((HR.out.call.below hW).more hW.size)
      go_wp2_with (go_at_call 15; refine (WT _ hw).mono ?_; rintro e w1 ⟨r, rfl, hb1, hr⟩; have hw1 : Below w.heap.size w w1 := hw.trans (hb1.mono hw.size); obtain ⟨b', off', hA', hB', hcells1⟩ := (HX.out.arr.below hw1).story hlt'; cases hA'; rw [stories_get xs k hlt' hlt] at hcells1; obtain ⟨d0, d1, d2, d3, d4, d5, d6, d7, d8, d9, d10, d11, d12, d13⟩ := hcells1)
      all_goals first | (go_ret; exact GivesLg.yes hw1) | (have hr' := hr (by omega); refine ⟨⟨k + 1, by omega, by go_num, hb.trans (hb1.mono hlw), all_more hlt HSL.out ⟨hr'.1, hr'.2, by omega, by omega⟩⟩, by simp [intOf]; omega⟩)
    · have hall := all_end hlt HSL.out
      have HALL := hid hall
      have s0 := (hb.cell (p := ⟨w.heap.size, 0, none⟩) (by simp)).trans (show _ = some (Value.slice PA s.pairs.length pc) from (by simp [go_sem]))
      clear hall HSL
      go_wp2_with fail
      clear s0
      go_loopw [6] (fun i wr => ∃ k : Nat, k ≤ s.pairs.length ∧ i = .int .i64 k ∧ Below (w.heap.size + 1) (w.alloc (.cells #[.slice PA s.pairs.length pc, .slice QA s.queue.length qc] 25)) wr ∧ ∀ p ∈ s.pairs.take k, p.key.size ≤ 600 ∧ p.val.size ≤ 600) (fun i _ => s.pairs.length - (intOf i).toNat)
      case atStart => exact ⟨0, Nat.zero_le _, rfl, hb, by simp⟩
      case round =>
        clear hb hw hlw hlt hkl
        obtain ⟨k, hkl, rfl, hb, hsl⟩ := hrel
        have hw : Below w.heap.size w _ := Below.trans (by repeat (first | exact Below.refl _ _ | assumption | refine Below.drew ?_ | refine below_drewN ?_ _ | refine Below.alloc ?_ (by first | omega | (simp; done) | (simp; omega)) _ | refine Below.setCell ?_ (by first | omega | (simp; done) | (simp; omega)) _)) (hb.mono (show w.heap.size ≤ _ from (by first | omega | (simp; done) | (simp; omega))))
        have HSL := hid hsl
        clear hsl
        have s0 := (hb.cell (p := ⟨w.heap.size, 0, none⟩) (by simp)).trans (show _ = some (Value.slice PA s.pairs.length pc) from (by simp [go_sem]))
        by_cases hlt : k < s.pairs.length
        · obtain ⟨b, off, hA, hB, c0, c1⟩ := (H.out.pairs.below hw).pair hlt
          subst hA
          go_wp2
          all_goals first | (go_ret; exact GivesLg.yes hw) | (refine ⟨⟨k + 1, by omega, by go_num, hb, all_more hlt HSL.out ⟨by omega, by omega⟩⟩, ?_⟩; simp [intOf]; omega)
        · have hall := all_end hlt HSL.out
          have HALL2 := hid hall
          have s1 := (hb.cell (p := ⟨w.heap.size, 1, none⟩) (by simp)).trans (show _ = some (Value.slice QA s.queue.length qc) from (by simp [go_sem]))
          clear hall HSL
          go_wp2_with fail
          clear s0 s1
          go_loopw [7] (fun i wr => ∃ k : Nat, k ≤ s.queue.length ∧ i = .int .i64 k ∧ Below (w.heap.size + 1) (w.alloc (.cells #[.slice PA s.pairs.length pc, .slice QA s.queue.length qc] 25)) wr ∧ ∀ q ∈ s.queue.take k, q.size ≤ 600) (fun i _ => s.queue.length - (intOf i).toNat)
          case atStart => exact ⟨0, Nat.zero_le _, rfl, hb, by simp⟩
          case round =>
            clear hb hw hlt hkl
            obtain ⟨k, hkl, rfl, hb, hsl⟩ := hrel
            have hw : Below w.heap.size w _ := Below.trans (by repeat (first | exact Below.refl _ _ | assumption | refine Below.drew ?_ | refine below_drewN ?_ _ | refine Below.alloc ?_ (by first | omega | (simp; done) | (simp; omega)) _ | refine Below.setCell ?_ (by first | omega | (simp; done) | (simp; omega)) _)) (hb.mono (show w.heap.size ≤ _ from (by first | omega | (simp; done) | (simp; omega))))
            have HSL := hid hsl
            clear hsl
            have s1 := (hb.cell (p := ⟨w.heap.size, 1, none⟩) (by simp)).trans (show _ = some (Value.slice QA s.queue.length qc) from (by simp [go_sem]))
            by_cases hlt : k < s.queue.length
            · obtain ⟨b, off, hA, hB, c0⟩ := (H.out.queue.below hw).txt1 hlt
              subst hA
              go_wp2
              all_goals first | (go_ret; exact GivesLg.yes hw) | (refine ⟨⟨k + 1, by omega, by go_num, hb, all_more hlt HSL.out (by omega)⟩, ?_⟩; simp [intOf]; omega)
            · go_wp2
              all_goals (go_ret; exact GivesLg.no hw ⟨sm1, sm2, sm3, HALL.out, HALL2.out, all_end hlt HSL.out⟩)
end Go.Proofs.YtamcehfcjcmpmaaGreatDoor
