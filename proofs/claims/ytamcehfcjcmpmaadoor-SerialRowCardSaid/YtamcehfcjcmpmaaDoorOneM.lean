/- Stories under way in memory, made one behind the other: what stays as it was while the list grows and a variable is set. No program is walked but Apply, by its contract. -/
import Derived.Test.YtamcehfcjcmpmaaDoorOneP
import Derived.Test.YtamcehfcjcmpmaaDoorLg
namespace Go.Proofs.YtamcehfcjcmpmaaDoor
open Go.RowKit

theorem bcell {W w1 : World} (hb : Below W.heap.size W w1) : (∀ b o, b < W.heap.size → w1.cell? ⟨b, o, none⟩ = W.cell? ⟨b, o, none⟩) ∧ (∀ b o, b < W.heap.size → w1.frozen? ⟨b, o, none⟩ = W.frozen? ⟨b, o, none⟩) :=
  ⟨fun b o h => hb.cell (p := ⟨b, o, none⟩) h, fun b o h => hb.frozen (p := ⟨b, o, none⟩) h⟩
/-- neither the variable p nor a row of stories -/
def NotSto (p : Nat) (w : World) (b : Nat) : Prop := b ≠ p ∧ ∀ cur fz, w.heap[b]? ≠ some (.cells cur 44 fz)
structure FrO (lo p : Nat) (w w' : World) : Prop where
  below : Below lo w w'
  keep : ∀ b, b < w.heap.size → NotSto p w b → w'.heap[b]? = w.heap[b]?
/-- all that was stays, but the variable p -/
structure Old (lo p : Nat) (w w' : World) : Prop where
  below : Below lo w w'
  keep : ∀ b, b < w.heap.size → b ≠ p → w'.heap[b]? = w.heap[b]?
theorem Old.of_below {lo p : Nat} {w w' : World} (h : Below w.heap.size w w') (hlo : lo ≤ w.heap.size) : Old lo p w w' := ⟨h.mono hlo, fun b hb _ => h.block b hb⟩
theorem Old.trans {lo p : Nat} {a b c : World} (h : Old lo p a b) (k : Old lo p b c) : Old lo p a c := ⟨h.below.trans k.below, fun i hi hp => (k.keep i (Nat.lt_of_lt_of_le hi h.below.size) hp).trans (h.keep i hi hp)⟩
theorem Old.more {lo p : Nat} {a b c : World} (h : Old lo p a b) (k : Below b.heap.size b c) (hlo : lo ≤ b.heap.size) : Old lo p a c := h.trans (Old.of_below k hlo)
theorem Old.setP {lo p : Nat} {a w : World} (h : Old lo p a w) (hp : lo ≤ p) (o : Nat) (u : Value) : Old lo p a (w.setCell ⟨p, o, none⟩ u) := ⟨h.below.setCell hp u, fun b hb hne => (Below.heap_setCell _ _ _ _ hne).trans (h.keep b hb hne)⟩
theorem Old.setNew {lo p : Nat} {a w : World} (h : Old lo p a w) {q : Nat} (hq : a.heap.size ≤ q) (hlo : lo ≤ a.heap.size) (o : Nat) (u : Value) : Old lo p a (w.setCell ⟨q, o, none⟩ u) := ⟨h.below.setCell (Nat.le_trans hlo hq) u, fun b hb hne => (Below.heap_setCell _ _ _ _ (fun e => absurd hb (by rw [e]; exact Nat.not_lt.2 hq))).trans (h.keep b hb hne)⟩
theorem Old.drew {lo p : Nat} {a w : World} (h : Old lo p a w) : Old lo p a w.drew := ⟨h.below.drew, h.keep⟩
theorem Old.fr {lo p : Nat} {w w' : World} (h : Old lo p w w') : FrO lo p w w' := ⟨h.below, fun b hb hn => h.keep b hb hn.1⟩
theorem NotSto.fr {lo p : Nat} {w w' : World} (h : FrO lo p w w') {b : Nat} (hb : b < w.heap.size) (hn : NotSto p w b) : NotSto p w' b := ⟨hn.1, fun cur fz => by rw [h.keep b hb hn]; exact hn.2 cur fz⟩
theorem FrO.refl (lo p : Nat) (w : World) : FrO lo p w w := ⟨Below.refl _ _, fun _ _ _ => rfl⟩
theorem FrO.trans {lo p : Nat} {a b c : World} (h : FrO lo p a b) (k : FrO lo p b c) : FrO lo p a c :=
  ⟨h.below.trans k.below, fun i hi hn => (k.keep i (Nat.lt_of_lt_of_le hi h.below.size) (hn.fr h hi)).trans (h.keep i hi hn)⟩
theorem FrO.grown {lo p : Nat} {w w' : World} {A : Option Addr} {c : Nat} {l : List Story} (own : Own Story.enc 44 14 w lo A c l) (hg : w.grownBy w' (rowOf A c)) (hlo : lo ≤ w.heap.size) : FrO lo p w w' :=
  ⟨ownBelow own hg (Below.refl _ _) hlo, fun b hb hn => hg.block b hb (own.notRow fun cur h => hn.2 cur _ h)⟩
/-- a row of stories stays -/
theorem Own.old {lo p : Nat} {w w' : World} (h : Old lo p w w') {A : Option Addr} {c : Nat} {l : List Story} (own : Own Story.enc 44 14 w lo A c l) {cur : Array Value} (hp : w.heap[p]? = some (.cells cur 25 (0, 0))) : Own Story.enc 44 14 w' lo A c l := by
  obtain ⟨h1, h2, h3⟩ := own
  rcases h3 with h3 | ⟨b, off, cur', rfl, hlo, hh, hs, hc⟩
  · exact ⟨h1, h2, .inl h3⟩
  · refine ⟨h1, h2, .inr ⟨b, off, cur', rfl, hlo, ?_, hs, hc⟩⟩
    rw [h.keep b (lt_of_heap hh) (fun e => by subst e; rw [hp] at hh; cases hh)]
    exact hh
def SafeO (lo p : Nat) (w : World) (b : Nat) : Prop := b < lo ∨ (b < w.heap.size ∧ NotSto p w b)
theorem FrO.safe {lo p : Nat} {w w' : World} {b : Nat} (h : FrO lo p w w') (hs : SafeO lo p w b) : w'.heap[b]? = w.heap[b]? := by
  rcases hs with hs | hs
  · exact h.below.block b hs
  · exact h.keep b hs.1 hs.2
theorem SafeO.fr {lo p : Nat} {w w' : World} {b : Nat} (hs : SafeO lo p w b) (h : FrO lo p w w') : SafeO lo p w' b := by
  rcases hs with hs | hs
  · exact .inl hs
  · exact .inr ⟨Nat.lt_of_lt_of_le hs.1 h.below.size, hs.2.fr h hs.1⟩
/-- a list in a block that stays -/
def ArrO {α : Type} (enc : α → List Value) (k lo p : Nat) (w : World) (A : Option Addr) (l : List α) : Prop :=
  l = [] ∨ ∃ b off, A = some ⟨b, off, none⟩ ∧ SafeO lo p w b ∧ ∀ i (h : i < l.length) j u, (enc l[i])[j]? = some u → w.cell? ⟨b, off + i * k + j, none⟩ = some u
section
variable {α : Type} {enc : α → List Value} {k lo p : Nat} {w w' : World} {A : Option Addr} {l : List α}
theorem ArrO.fr (h : ArrO enc k lo p w A l) (hf : FrO lo p w w') : ArrO enc k lo p w' A l := by
  rcases h with h | ⟨b, off, h1, h2, h3⟩
  · exact .inl h
  · exact .inr ⟨b, off, h1, h2.fr hf, fun i hi j u hu => (World.cell?_of_block (a := ⟨b, off + i * k + j, none⟩) (hf.safe h2)).trans (h3 i hi j u hu)⟩
theorem ArrO.arr (h : ArrO enc k lo p w A l) (hlo : lo ≤ w.heap.size) : Arr enc k w w.heap.size A l := by
  rcases h with h | ⟨b, off, h1, h2, h3⟩
  · exact .inl h
  · refine .inr ⟨b, off, h1, ?_, h3⟩
    rcases h2 with h2 | h2
    · omega
    · exact h2.1
theorem ArrO.of_arr (h : Arr enc k w lo A l) : ArrO enc k lo p w A l := by
  rcases h with h | ⟨b, off, h1, h2, h3⟩
  · exact .inl h
  · exact .inr ⟨b, off, h1, .inl h2, h3⟩
theorem ArrO.of_own {e : TypeId} {c lo' : Nat} (hk : ∀ x, (enc x).length = k) (h : Own enc e k w lo' A c l) (he : e ≠ 44) (hp : ∀ cur, w.heap[p]? ≠ some (.cells cur e (0, 0))) : ArrO enc k lo p w A l := by
  rcases h.arr hk with ha | ⟨b, off, h1, h2, h3⟩
  · exact .inl ha
  · rcases h.2.2 with h0 | ⟨b', off', cur, h4, -, h5, -, -⟩
    · have : l.length = 0 := by have := h.len; omega
      exact .inl (List.length_eq_zero_iff.1 this)
    · rw [h1] at h4
      cases h4
      refine .inr ⟨b, off, h1, .inr ⟨h2, ?_, fun cur' fz h6 => ?_⟩, h3⟩
      · rintro rfl
        exact hp cur h5
      · rw [h5] at h6
        cases h6
        exact he rfl
end
/-- a store in blocks that stay -/
structure ShO (lo p : Nat) (w : World) (PA : Option Addr) (pc : Nat) (QA : Option Addr) (qc : Nat) (s : Shelf) : Prop where
  pairs : ArrO Pair.enc 2 lo p w PA s.pairs
  plen : s.pairs.length ≤ pc
  pmax : pc ≤ 9223372036854775807
  queue : ArrO txt 1 lo p w QA s.queue
  qlen : s.queue.length ≤ qc
  qmax : qc ≤ 9223372036854775807
theorem ShO.fr {lo p : Nat} {w w' : World} {PA QA : Option Addr} {pc qc : Nat} {s : Shelf} (h : ShO lo p w PA pc QA qc s) (hf : FrO lo p w w') : ShO lo p w' PA pc QA qc s := ⟨h.pairs.fr hf, h.plen, h.pmax, h.queue.fr hf, h.qlen, h.qmax⟩
theorem ShO.in_ {lo p : Nat} {w : World} {PA QA : Option Addr} {pc qc : Nat} {s : Shelf} (h : ShO lo p w PA pc QA qc s) (hlo : lo ≤ w.heap.size) : ShIn w w.heap.size PA pc QA qc s := ⟨h.pairs.arr hlo, h.plen, h.pmax, h.queue.arr hlo, h.qlen, h.qmax⟩
theorem ShO.of_in {lo p : Nat} {w : World} {PA QA : Option Addr} {pc qc : Nat} {s : Shelf} (h : ShIn w lo PA pc QA qc s) : ShO lo p w PA pc QA qc s := ⟨ArrO.of_arr h.pairs, h.plen, h.pmax, ArrO.of_arr h.queue, h.qlen, h.qmax⟩
theorem ShO.of_own {lo lo' p : Nat} {w : World} {PA QA : Option Addr} {pc qc : Nat} {s : Shelf} (h : ShOwn w lo' PA pc QA qc s) {cur : Array Value} (hp : w.heap[p]? = some (.cells cur 25 (0, 0))) : ShO lo p w PA pc QA qc s :=
  ⟨ArrO.of_own Pair.enc_len h.pairs (by decide) (fun cur' h => by rw [hp] at h; cases h), h.pairs.len, h.pairs.max, ArrO.of_own txt_len h.queue (by decide) (fun cur' h => by rw [hp] at h; cases h), h.queue.len, h.queue.max⟩
/-- a story that was made, in memory -/
structure ItemO (lo p : Nat) (w : World) (y : Item) : Prop where
  call : CallIn w lo y.s.c y.g
  glen : y.g.length ≤ 600
  flat : ∀ z ∈ y.g, z.gn = 0 ∧ ∃ g, CallIn w lo z g
  prs : ∃ ps, ArrO Pair.enc 2 lo p w y.s.pA ps ∧ y.s.pn = ps.length ∧ ps.length ≤ y.s.pc ∧ y.s.pc ≤ 9223372036854775807 ∧ ps.length ≤ 1000000
  hits : ArrO bit 1 lo p w y.s.hA y.hs ∧ y.s.hn = y.hs.length ∧ y.hs.length ≤ y.s.hc ∧ y.s.hc ≤ 9223372036854775807 ∧ y.hs.length ≤ 1000000
theorem ItemO.fr {lo p : Nat} {w w' : World} {y : Item} (h : ItemO lo p w y) (hf : FrO lo p w w') : ItemO lo p w' y :=
  ⟨h.call.below hf.below, h.glen, fun z hz => ⟨(h.flat z hz).1, by obtain ⟨g, hg⟩ := (h.flat z hz).2; exact ⟨g, hg.below hf.below⟩⟩, by obtain ⟨ps, h1, h2⟩ := h.prs; exact ⟨ps, h1.fr hf, h2⟩, h.hits.1.fr hf, h.hits.2⟩
theorem ItemO.item {lo p : Nat} {w : World} {y : Item} (h : ItemO lo p w y) (hlo : lo ≤ w.heap.size) : ItemIn w w.heap.size y := ⟨h.call.more hlo, h.hits.1.arr hlo, h.hits.2.1, h.hits.2.2.2.2⟩
theorem ItemO.st {lo p : Nat} {w : World} {y : Item} (h : ItemO lo p w y) (hlo : lo ≤ w.heap.size) : StIn w w.heap.size y.s := by
  obtain ⟨ps, h1, h2, h3, h4, h5⟩ := h.prs
  refine ⟨2, ⟨y.g, h.call.more hlo, by have := h.glen; omega, fun z hz => ?_⟩, ps, y.hs, ⟨h1.arr hlo, h2, h3, h4, h.hits.1.arr hlo, h.hits.2.1, h.hits.2.2.1, h.hits.2.2.2.1⟩, h5, h.hits.2.2.2.2⟩
  obtain ⟨h0, g, hg⟩ := h.flat z hz
  have hg0 : g.length = 0 := by rw [← hg.len]; exact h0
  exact ⟨g, hg.more hlo, by omega, fun x hx => by rw [List.length_eq_zero_iff.1 hg0] at hx; simp at hx⟩
theorem apA_small {c : Call0} {g : List Call0} {S : Shelf} (h6 : c.kind ≠ 6) : (apA c g S).pairs = [] ∧ (apA c g S).hits.length ≤ g.length := by
  unfold apA
  split
  · split
    · exact ⟨rfl, by show (hitsOf g S).length ≤ _; rw [hitsOf_len]; exact Nat.le_refl _⟩
    · unfold doA
      repeat' split
      all_goals first | exact ⟨rfl, Nat.zero_le _⟩ | (exfalso; exact h6 (by assumption))
  · exact ⟨rfl, Nat.zero_le _⟩
/-- the stories made, the store behind them in the variable p -/
structure OneR (lo p : Nat) (S0 : Shelf) (wr : World) (ys : List Item) (A : Option Addr) (c : Nat) (PT : Option Addr) (pt : Nat) (QT : Option Addr) (qt : Nat) : Prop where
  sts : Own Story.enc 44 14 wr lo A c (stories ys)
  row : wr.heap[p]? = some (.cells #[.slice PT (runTo ys S0 ys.length).pairs.length pt, .slice QT (runTo ys S0 ys.length).queue.length qt] 25 (0, 0))
  sh : ShO lo p wr PT pt QT qt (runTo ys S0 ys.length)
  law : OneL S0 ys
  items : ∀ y ∈ ys, ItemO lo p wr y
theorem OneR.stsIn {lo p : Nat} {S0 : Shelf} {wr : World} {ys : List Item} {A : Option Addr} {c : Nat} {PT : Option Addr} {pt : Nat} {QT : Option Addr} {qt : Nat} (h : OneR lo p S0 wr ys A c PT pt QT qt) (hlo : lo ≤ wr.heap.size) : StsIn wr wr.heap.size A c ys :=
  ⟨h.sts.arr Story.enc_len, fun x hx => (h.items x hx).st hlo, fun x hx => (h.items x hx).item hlo, by have := h.sts.len; simpa [stories] using this, h.sts.max⟩
/-- a call's doing, the bound of what is new under a name -/
def GivesApL (s : Shelf) (a : Ans) (w : World) (e : Ending) (w' : World) : Prop :=
  ∃ lo PA pc QA qc RA rc HA hc, lo = w.heap.size ∧ e = .returned (.tuple #[.agg #[.slice PA s.pairs.length pc, .slice QA s.queue.length qc], .agg #[.int .i64 a.code, .bool a.found, .string a.value, .slice RA a.pairs.length rc, .slice HA a.hits.length hc, .int .u64 0]]) ∧
    ShOwn w' lo PA pc QA qc s ∧ Own Pair.enc 53 2 w' lo RA rc a.pairs ∧ Own bit 4 1 w' lo HA hc a.hits ∧ Below w.heap.size w w'
theorem apply_anyL (s : Shelf) (PA : Option Addr) (pc : Nat) (QA : Option Addr) (qc : Nat) (c : Call0) (g : List Call0) (w : World) (h : ShIn w w.heap.size PA pc QA qc s) (hp : s.pairs.length ≤ 90000) (hq : s.queue.length ≤ 90000) (hc : CallIn w w.heap.size c g) :
    Calls Tryd.prog 14 #[.agg #[.slice PA s.pairs.length pc, .slice QA s.queue.length qc], .agg #[.int .i64 c.kind, .string c.key, .string c.val, .string c.to, .slice c.gA c.gn c.gc]] w (GivesApL (apS c g s) (apA c g s) w) :=
  (apply_any s PA pc QA qc c g w h hp hq hc).mono fun _ _ ⟨PA, pc, QA, qc, RA, rc, HA, hc, h1, h2, h3, h4, h5⟩ => ⟨_, PA, pc, QA, qc, RA, rc, HA, hc, rfl, h1, h2, h3, h4, h5⟩
/-- a store and an answer, each in a variable, as a call of Apply leaves them -/
def Applied (w wx : World) (s : Shelf) (a : Ans) (v5 v6 : Value) : Prop :=
  ∃ px pa PX px' QX qx' RA rc HA hc, v5 = .pointer (some ⟨px, 0, none⟩) ∧ v6 = .pointer (some ⟨pa, 0, none⟩) ∧ Below w.heap.size w wx ∧ w.heap.size ≤ px ∧ w.heap.size ≤ pa ∧ (px < wx.heap.size ∧ wx.cell? ⟨px, 0, none⟩ = some (.slice PX s.pairs.length px') ∧ wx.cell? ⟨px, 1, none⟩ = some (.slice QX s.queue.length qx')) ∧
    (pa < wx.heap.size ∧ wx.cell? ⟨pa, 0, none⟩ = some (.int .i64 a.code) ∧ wx.cell? ⟨pa, 1, none⟩ = some (.bool a.found) ∧ wx.cell? ⟨pa, 2, none⟩ = some (.string a.value) ∧ wx.cell? ⟨pa, 3, none⟩ = some (.slice RA a.pairs.length rc) ∧ wx.cell? ⟨pa, 4, none⟩ = some (.slice HA a.hits.length hc) ∧ wx.cell? ⟨pa, 5, none⟩ = some (.int .u64 0)) ∧
    ShOwn wx w.heap.size PX px' QX qx' s ∧ Own Pair.enc 53 2 wx w.heap.size RA rc a.pairs ∧ Own bit 4 1 wx w.heap.size HA hc a.hits
/-- one more story, behind a call's doing and its own variable's growing -/
theorem OneR.push {lo p : Nat} {S0 : Shelf} {wr : World} {ys : List Item} {A : Option Addr} {c : Nat} {PT : Option Addr} {pt : Nat} {QT : Option Addr} {qt : Nat} (h : OneR lo p S0 wr ys A c PT pt QT qt) (hlo : lo ≤ wr.heap.size) {wv w8 w9 : World} {y : Item} {T' : Shelf} (hT : y.next (runTo ys S0 ys.length) = T') {PX : Option Addr} {px : Nat} {QX : Option Addr} {qx : Nat} {lo' : Nat}
    (OC : Old lo p wr wv) {cur : Array Value} (Pv : wv.heap[p]? = some (.cells cur 25 (0, 0))) (hX : ShOwn wv lo' PX px QX qx T') (hnew : ItemO lo p wv y) (hone : OneI (runTo ys S0 ys.length) ys.length y) (O8 : Old lo p wv w8)
    (P8 : w8.heap[p]? = some (.cells #[.slice PX T'.pairs.length px, .slice QX T'.queue.length qx] 25 (0, 0))) {o : Obj} {A9 : Option Addr} {c9 : Nat} (hown : Own Story.enc 44 14 w9 lo A9 c9 (stories ys ++ [y.s])) (hg : (w8.alloc o).grownBy w9 (rowOf A c)) :
    OneR lo p S0 w9 (ys ++ [y]) A9 c9 PX px QX qx ∧ Below lo wr w9 ∧ ∀ (b : Nat) (cu : Array Value), wr.heap[b]? = some (.cells cu 25 (0, 0)) → b ≠ p → w9.heap[b]? = some (.cells cu 25 (0, 0)) := by
  have OW : Old lo p wr w8 := OC.trans O8
  have OWN := Own.old OW h.sts h.row
  have hz8 : lo ≤ w8.heap.size := Nat.le_trans hlo OW.below.size
  have b1 : Below w8.heap.size w8 (w8.alloc o) := (Below.refl _ _).alloc (Nat.le_refl _) _
  have F9 : FrO lo p w8 w9 := ((Old.of_below b1 hz8).fr).trans (FrO.grown (OWN.alloc o) hg (Nat.le_trans hz8 b1.size))
  have FV : FrO lo p wv w9 := O8.fr.trans F9
  have FR : FrO lo p wr w9 := OC.fr.trans FV
  have keepS : ∀ (b : Nat) (cu : Array Value), w8.heap[b]? = some (.cells cu 25 (0, 0)) → w9.heap[b]? = some (.cells cu 25 (0, 0)) := fun b cu hb => by
    have ha : (w8.alloc o).heap[b]? = some (.cells cu 25 (0, 0)) := (Below.heap_alloc _ _ _ (lt_of_heap hb)).trans hb
    exact (hg.block b (lt_of_heap ha) ((OWN.alloc o).notRow fun cur' h' => by rw [ha] at h'; cases h')).trans ha
  have hrun : runTo (ys ++ [y]) S0 (ys ++ [y]).length = T' := by
    rw [List.length_append]
    show runTo _ S0 (ys.length + 1) = _
    rw [runTo_snoc, hT]
  refine ⟨⟨?_, ?_, ?_, h.law.snoc hone, fun z hz => ?_⟩, FR.below, fun b cu hb hne => keepS b cu ((OW.keep b (lt_of_heap hb) hne).trans hb)⟩
  · rw [show stories (ys ++ [y]) = stories ys ++ [y.s] by simp [stories]]
    exact hown
  · rw [hrun]; exact keepS p _ P8
  · rw [hrun]; exact (ShO.of_own hX Pv).fr FV
  · rcases List.mem_append.1 hz with h' | h'
    · exact (h.items z h').fr FR
    · rw [List.mem_singleton] at h'
      rw [h']
      exact hnew.fr FV
/-- a story made of a call and what it answered -/
def mkOne (c : Call0) (g : List Call0) (a : Ans) (RX : Option Addr) (rx : Nat) (HX : Option Addr) (hx : Nat) (bg en : Int) : Item := ⟨⟨0, c, a.code, a.found, a.value, RX, a.pairs.length, rx, HX, a.hits.length, hx, 0, bg, en⟩, g, a.hits⟩
theorem mkOne_one {c : Call0} {g : List Call0} {T : Shelf} {RX : Option Addr} {rx : Nat} {HX : Option Addr} {hx : Nat} {bg en : Int} {i : Nat} (hg : goodI c g = 0) (h6 : c.kind ≠ 6) (h8 : c.kind ≠ 8) (h0 : 100 * (i : Int) + 2 ≤ bg) (h1 : bg ≤ 100 * ((i : Int) + 1)) (h2 : 100 * ((i : Int) + 1) + 50 ≤ en) :
    OneI T i (mkOne c g (apA c g T) RX rx HX hx bg en) :=
  ⟨kindB_good hg h6 h8, by show (apA c g T).code = 0; rw [apA_code, hg], ok_self hg rfl rfl rfl, h0, h1, h2⟩
theorem mkOne_item {c : Call0} {g : List Call0} {T : Shelf} {RX : Option Addr} {rx : Nat} {HX : Option Addr} {hx : Nat} {bg en : Int} {lo lo' p : Nat} {w wv : World} (hb : Below lo w wv) (hc : CallIn w lo c g) (hl : g.length ≤ 600 ∧ ∀ z ∈ g, z.gn = 0) (hd : ∀ z ∈ g, ∃ g', CallIn w lo z g') (h6 : c.kind ≠ 6) {cur : Array Value} (Pv : wv.heap[p]? = some (.cells cur 25 (0, 0)))
    (hR : Own Pair.enc 53 2 wv lo' RX rx (apA c g T).pairs) (hH : Own bit 4 1 wv lo' HX hx (apA c g T).hits) : ItemO lo p wv (mkOne c g (apA c g T) RX rx HX hx bg en) := by
  have hsm := apA_small (c := c) (g := g) (S := T) h6
  refine ⟨hc.below hb, hl.1, fun z hz => ⟨hl.2 z hz, by obtain ⟨g', hg'⟩ := hd z hz; exact ⟨g', hg'.below hb⟩⟩, ⟨(apA c g T).pairs, ArrO.of_own Pair.enc_len hR (by decide) (fun cur' h => by rw [Pv] at h; cases h), rfl, hR.len, hR.max, by rw [hsm.1]; simp⟩, ArrO.of_own bit_len hH (by decide) (fun cur' h => by rw [Pv] at h; cases h), rfl, hH.len, hH.max, ?_⟩
  have := hsm.2
  have := hl.1
  show (apA c g T).hits.length ≤ _
  omega
theorem keep7 {W W' : World} {n b o1 o2 o3 o4 o5 : Nat} {u0 u1 v0 v1 v2 v3 v4 : Value} (hb : Below W.heap.size W W') (hn : n < W.heap.size) (hbn : b < W.heap.size)
    (h : W.cell? ⟨n, 0, none⟩ = some u0 ∧ W.cell? ⟨n, 1, none⟩ = some u1 ∧ W.cell? ⟨b, o1, none⟩ = some v0 ∧ W.cell? ⟨b, o2, none⟩ = some v1 ∧ W.cell? ⟨b, o3, none⟩ = some v2 ∧ W.cell? ⟨b, o4, none⟩ = some v3 ∧ W.cell? ⟨b, o5, none⟩ = some v4) :
    W'.cell? ⟨n, 0, none⟩ = some u0 ∧ W'.cell? ⟨n, 1, none⟩ = some u1 ∧ W'.cell? ⟨b, o1, none⟩ = some v0 ∧ W'.cell? ⟨b, o2, none⟩ = some v1 ∧ W'.cell? ⟨b, o3, none⟩ = some v2 ∧ W'.cell? ⟨b, o4, none⟩ = some v3 ∧ W'.cell? ⟨b, o5, none⟩ = some v4 := by
  rw [hb.cell (p := ⟨n, 0, none⟩) hn, hb.cell (p := ⟨n, 1, none⟩) hn, hb.cell (p := ⟨b, o1, none⟩) hbn, hb.cell (p := ⟨b, o2, none⟩) hbn, hb.cell (p := ⟨b, o3, none⟩) hbn, hb.cell (p := ⟨b, o4, none⟩) hbn, hb.cell (p := ⟨b, o5, none⟩) hbn]
  exact h
end Go.Proofs.YtamcehfcjcmpmaaDoor
