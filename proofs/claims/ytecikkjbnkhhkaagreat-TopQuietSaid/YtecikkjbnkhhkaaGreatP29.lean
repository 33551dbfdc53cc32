/- A part of the walk. -/
import Derived.Test.YtecikkjbnkhhkaaGreatP20
import Derived.Test.YtecikkjbnkhhkaaGreatP28
namespace Go.Proofs.YtecikkjbnkhhkaaGreat
open _root_.Go.Proofs.Tryz
set_option maxHeartbeats 2000000
set_option maxRecDepth 100000
section
open Go.RowKit
section
variable {g : Own8} {w : World} {lo a b t : Nat} {P : qag} {M : qa4} {ty : TypeId} {f : qa5} {d : FrD}
def wrD (M : qa4) (c : qa7) (k : Int) (n p : Nat) : List qab := if h : n + p < M.D.length then M.D.set (n + p) (M.D[n + p].over 0 (qii c k p)) else M.D
theorem qg2 {a : Nat} (h : qa6 g w a P M) (c : qa7) (hck : c.key.size ≤ 1000) (hcv : c.val.size ≤ 1000) (n p : Nat) (k : Int) (hk : ¬ qa9 k = 0) (hp : p < qa9 k) (hn : n + qa9 k ≤ M.D.length) :
 Calls prog 247 #[.pointer (some ⟨a, 0, none⟩), .agg #[.int .i64 c.kind, .string c.key, .string c.val, .string c.tx, .slice c.gA c.gn c.gc], .int .i64 (n : Int), .int .i64 k, .int .i64 (p : Int)] w (qph a P M (wrD M c k n p) (.bool (decide (p + 1 = qa9 k))) g w) := by
 have hs : qa9 k ≤ 8 := by unfold qa9; repeat (first | split | omega)
 have hlt : n + p < M.D.length := by omega
 rw [wrD, dif_pos hlt]; by_cases h0 : p = 0
 · subst h0
   have e1 : decide (0 + 1 = qa9 k) = (qa9 k == 1) := by rw [Bool.eq_iff_iff]; simp; omega
   have e2 : qii c k 0 = qgj k := if_pos rfl; rw [e1, e2]; exact qnt h c n k hk (by omega)
 · exact qnu h c hck hcv n p k (by omega) (by omega) hlt
def WrR (M : qa4) (f : qa5) (d : FrD) (n p : Nat) (M' : qa4) (f' : qa5) (d' : FrD) : Prop := d' = d ∧ M' = { M with D := wrD M f.call f.cls n p } ∧
 ((p + 1 = qa9 f.cls ∧ f' = { f with piece := 0, phase := 5 }) ∨ (¬ p + 1 = qa9 f.cls ∧ f' = { f with piece := ((p + 1 : Nat) : Int) }))
theorem qhf (h : WSt g w lo a P M b t ty f d) (hck : f.call.key.size ≤ 1000) (hcv : f.call.val.size ≤ 1000) (n p : Nat) (hline : f.line = (n : Int)) (hpiece : f.piece = (p : Int)) (hk : ¬ qa9 f.cls = 0) (hp : p < qa9 f.cls) (hn : n + qa9 f.cls ≤ M.D.length) :
 Calls prog 185 #[.pointer (some ⟨b, 0, none⟩)] w (qal lo a P b t ty (WrR M f d n p) g w) := by
 have hs : qa9 f.cls ≤ 8 := by unfold qa9; repeat (first | split | omega)
 have H := hid h; have c0 := h.c0; have c2 := h.box.c 2 rfl; have c3 := h.box.c 3 rfl; have c4 := h.box.c 4 rfl; have c5 := h.box.c 5 rfl; have c6 := h.box.c 6 rfl; have c18 := h.box.c 18 rfl; have c19 := h.box.c 19 rfl; have c20 := h.box.c 20 rfl; rw [hline] at c18; rw [hpiece] at c20; have hl := h.box.lt; have TW := hid (qg2 (h.ar.below (Below.refl _ _).drew) f.call hck hcv n p f.cls hk hp hn); have HP := hid hpiece; obtain ⟨q, hq⟩ : ∃ q, q = p + 1 := ⟨_, rfl⟩; have hw1 : IntKind.i64.wrap ((p : Int) + 1) = (q : Int) := by rw [Go.IntWalk.i64_in _ (by omega)]; omega
 have HQ := hid hq; clear h hline hpiece hq; go_enter func185, ntmps185; go_upto_region 1 with fail; go_still_tail 20, (by kernel_rfl); change wpList _ _ _ _ _ (World.drew w); have H1 := hid H.out.drew; have HE1 : Hid (ExtB lo b g g w w.drew) := hid (ExtB.below (Below.refl _ _).drew); generalize hw1 : World.drew w = w1 at *; clear hw1 c0 c2 c3 c4 c5 c6 c18 c19 c20 hl H; go_wp2_with fail; refine TW.out.mono ?_; rintro r w2 ⟨rfl, g2, A2, E2⟩; have h2 := H1.out.ext A2 E2; have H2 := hid h2; have HE2 := hid (HE1.out.trans (.of_ext E2)); have c20 := h2.box.c 20 rfl; rw [HP.out] at c20; have f20 := h2.box.fr 20; have c7 := h2.box.c 7 rfl; have f7 := h2.box.fr 7; have hl := h2.box.lt; clear h2 A2 E2 TW H1 HE1; by_cases hlast : p + 1 = qa9 f.cls
 · have hd : decide (p + 1 = qa9 f.cls) = true := decide_eq_true hlast
   rw [hd]; have HL := hid hlast; clear hd hlast; go_wp2_with fail; refine bodyPost_ret (v := .tuple #[]) (by simp [results, results185]) rfl ⟨rfl, _, _, d, ⟨rfl, rfl, .inl ⟨HL.out, rfl⟩⟩, g2, ?_, ((HE2.out.trans (ExtB.set 20 _)).trans (ExtB.set 20 _)).trans (ExtB.set 7 _)⟩; exact ((H2.out.set 20 (.int .i64 (q : Int)) { f with piece := (q : Int) } rfl ⟨rfl, rfl, rfl, rfl⟩).set 20 (.int .i64 0) { f with piece := 0 } rfl ⟨rfl, rfl, rfl, rfl⟩).set 7 (.int .i64 5) { f with piece := 0, phase := 5 } rfl ⟨rfl, rfl, rfl, rfl⟩
 · have hd : decide (p + 1 = qa9 f.cls) = false := decide_eq_false hlast
   rw [hd]; have HL := hid hlast; clear hd hlast; go_wp2_with fail; refine bodyPost_ret (v := .tuple #[]) (by simp [results, results185]) rfl ⟨rfl, _, _, d, ⟨rfl, rfl, .inr ⟨HL.out, rfl⟩⟩, g2, ?_, HE2.out.trans (ExtB.set 20 _)⟩; have := HQ.out; subst this; exact H2.out.set 20 (.int .i64 ((p + 1 : Nat) : Int)) { f with piece := ((p + 1 : Nat) : Int) } rfl ⟨rfl, rfl, rfl, rfl⟩
def RdR (M : qa4) (f : qa5) (d : FrD) (now : List UInt8) (pc : Nat) (M' : qa4) (f' : qa5) (d' : FrD) : Prop := M' = M ∧
 ((¬ pc + 1 = qa9 f.old.cls ∧ ∃ A' c', f' = { f with bA := A', bn := d.bs.length + now.length, bc := c', piece := ((pc + 1 : Nat) : Int) } ∧ d' = { d with bs := d.bs ++ now }) ∨
  (pc + 1 = qa9 f.old.cls ∧ d' = { d with bs := [] } ∧
   (((valB (decB (d.bs ++ now)) f.old 1).2 = false ∧ f' = { f with bA := none, bn := 0, bc := 0, piece := ((pc + 1 : Nat) : Int), code := 6, phase := 6 }) ∨
    ((valB (decB (d.bs ++ now)) f.old 1).2 = true ∧ f' = { f with bA := none, bn := 0, bc := 0, piece := ((pc + 1 : Nat) : Int), found := true, vl := (valB (decB (d.bs ++ now)) f.old 1).1, phase := 6 }))))
theorem qit (h : WSt g w lo a P M b t ty f d) (ol pc : Nat) (hol : f.old.line = (ol : Int)) (hpc : f.piece = (pc : Int)) (hi : ol + pc < M.D.length) (hb : d.bs.length ≤ 900) (hlo : lo ≤ w.heap.size) :
 Calls prog 183 #[.pointer (some ⟨b, 0, none⟩)] w (qal lo a P b t ty (RdR M f d M.D[ol + pc].now pc) g w) := by
 have TR := hid (qm0 h ol pc hol hpc hi (by omega) hlo); have hnl := M.D[ol + pc].hn; generalize M.D[ol + pc].now = now at *; have c0 := h.c0; have hl := h.box.lt; have HNL := hid hnl; clear h hol hpc hi hnl; go_enter func183, ntmps183; go_wp2_with fail; refine TR.out.mono ?_; rintro r w1 ⟨A', c', rfl, g1, W1, E1⟩; have HW1 := hid W1; have HE1 := hid E1; clear W1 E1 TR c0 hl; by_cases hlast : pc + 1 = qa9 f.old.cls; rotate_left
 · have hd : decide (pc + 1 = qa9 f.old.cls) = false := decide_eq_false hlast
   rw [hd]; have HL := hid hlast; clear hd hlast; go_wp2_with fail; exact bodyPost_ret (v := .tuple #[]) (by simp [results, results183]) rfl ⟨rfl, M, _, _, ⟨rfl, .inl ⟨HL.out, A', c', rfl, rfl⟩⟩, g1, HW1.out, HE1.out⟩
 have hd : decide (pc + 1 = qa9 f.old.cls) = true := decide_eq_true hlast; rw [hd]; have HL := hid hlast; clear hd hlast; have TV := hid (qj5 HW1.out 1 (by show (d.bs ++ now).length ≤ 1000000; rw [List.length_append, HNL.out]; omega)); go_wp2_with fail; refine TV.out.mono ?_; rintro r w2 ⟨rfl, g2, W2, E2⟩; obtain ⟨v, hv⟩ : ∃ v, v = valB (decB (d.bs ++ now)) f.old 1 := ⟨_, rfl⟩; have HV := hid hv; rw [show valB (decB ({ d with bs := d.bs ++ now } : FrD).bs) ({ f with bA := A', bn := d.bs.length + now.length, bc := c', piece := ((pc + 1 : Nat) : Int) } : qa5).old 1 = v from hv.symm]; obtain ⟨v1, v2⟩ := v; have HW2 := hid W2; have HE2 := hid (HE1.out.trans E2); clear hv TV W2 E2; cases v2 with
 | false =>
  have TF := hid (qcb HW2.out 6); go_wp2_with fail; refine TF.out.mono ?_; rintro r w3 ⟨rfl, hto⟩; have HTO := hid hto; clear hto TF; go_wp2_with fail; exact bodyPost_ret (v := .tuple #[]) (by simp [results, results183]) rfl ⟨rfl, M, _, _, ⟨rfl, .inr ⟨HL.out, rfl, .inl ⟨by rw [← HV.out], rfl⟩⟩⟩, WTo.trans HE2.out HTO.out⟩
 | true =>
  have c25 := HW2.out.box.c 25 rfl; have c26 := HW2.out.box.c 26 rfl; have c7 := HW2.out.box.c 7 rfl; have f25 := HW2.out.box.fr 25; have f26 := HW2.out.box.fr 26; have f7 := HW2.out.box.fr 7; have hl := HW2.out.box.lt; go_wp2_with fail; refine bodyPost_ret (v := .tuple #[]) (by simp [results, results183]) rfl ⟨rfl, M, _, _, ⟨rfl, .inr ⟨HL.out, rfl, .inr ⟨by rw [← HV.out], rfl⟩⟩⟩, g2, ?_, ((HE2.out.trans (ExtB.set 25 _)).trans (ExtB.set 26 _)).trans (ExtB.set 7 _)⟩; rw [← HV.out]; exact ((HW2.out.set 25 (.bool true) { f with bA := none, bn := 0, bc := 0, piece := ((pc + 1 : Nat) : Int), found := true } rfl ⟨rfl, rfl, rfl, rfl⟩).set 26 (.string v1) { f with bA := none, bn := 0, bc := 0, piece := ((pc + 1 : Nat) : Int), found := true, vl := v1 } rfl ⟨rfl, rfl, rfl, rfl⟩).set 7 (.int .i64 6) { f with bA := none, bn := 0, bc := 0, piece := ((pc + 1 : Nat) : Int), found := true, vl := v1, phase := 6 } rfl ⟨rfl, rfl, rfl, rfl⟩
end
end
section
open Go.RowKit Go.MapKept
def txtE (s : ByteArray) : List Value := [.string s]
theorem qoh (s : ByteArray) : (txtE s).length = 1 := rfl
def qdb (s : ByteArray) : List UInt8 := s.data.toList
def qce (l : List UInt8) : ByteArray := ⟨l.toArray⟩
theorem qfu (s : ByteArray) : qce (qdb s) = s := by simp [qce, qdb]
def R0 : Value → Option (DataW Unit × List MemPlace) := fun _ => some (.nil, [])
section
variable {es : Array MapEntry} {clock r : Nat} {L : List qa3} {w : World}
theorem MapL.owns (h : MapL w r L) (hs : ∀ x ∈ L, x.key.size ≤ 1000000) (hl : L.length ≤ 1000000) : ∃ D : DataW Unit, w.ownsMap prog 9 R0 r L.length D ∧ Maps.size D = L.length ∧ (strKeys D).Perm (L.map fun x => qdb x.key) := by
 obtain ⟨es, clock, hb, hm⟩ := h; have hst : prog.underlying 9 = some .string := underlying9; have hkey : ∀ s : ByteArray, s.size ≤ 1000000 → keyOf prog 9 (.string s) = some (.string s.data.toList) := fun s h => WideMaps.keyOf_string_mk hst (by unfold maxLen; omega)
 have hrd : ∀ e ∈ es.toList, ∃ x ∈ L, e.key = .string x.key ∧ WideElems.rd prog 9 R0 e = some (.string (qdb x.key), .nil) := by
  intro e he; obtain ⟨j, hj, rfl⟩ := List.getElem_of_mem he; have hjl : j < L.length := by rw [← hm.len]; simpa using hj
  obtain ⟨e', h1, h2, _⟩ := hm.row j hjl; have : es.toList[j] = e' := by
   have := (Array.getElem?_eq_some_iff.1 h1).2; simpa using this
  rw [this]; refine ⟨L[j], List.getElem_mem hjl, h2, ?_⟩; unfold WideElems.rd; rw [h2, hkey _ (hs _ (List.getElem_mem hjl))]; rfl
 refine ⟨_, ⟨es, clock, hb, ⟨by rw [hm.len]; unfold maxLen; omega, hm.st, fun e he => ?_⟩, by rw [hm.len]; exact Nat.le_refl _, rfl⟩, ?_, ?_⟩
 · obtain ⟨x, _, _, h2⟩ := hrd e he
   exact ⟨_, h2⟩
 · rw [Maps.size_eq, (WideShapes.sorted_perm _).length_eq, List.length_map, Array.length_toList, hm.len]
 · refine ((WideShapes.sorted_perm _).map fun p => strOf p.1).trans ?_
   rw [List.map_map]; have : es.toList.map ((fun p : Lit × DataW Unit => strOf p.1) ∘ WideElems.rg prog 9 R0) = L.map fun x => qdb x.key := by
    apply List.ext_getElem?; intro j; rw [List.getElem?_map, List.getElem?_map, Array.getElem?_toList]; by_cases hj : j < L.length
    · obtain ⟨e, h1, h2, _⟩ := hm.row j hj
      rw [h1, List.getElem?_eq_getElem hj]; simp only [Option.map_some, Function.comp]; unfold WideElems.rg WideElems.rd; rw [h2, hkey _ (hs _ (List.getElem_mem hj))]; rfl
    · rw [List.getElem?_eq_none (by omega), Array.getElem?_eq_none (by rw [hm.len]; omega)]
      rfl
   rw [this]
end
theorem qB4 : ∀ x y : List UInt8, Op.bytesLess x y = decide (x < y)
 | _, [] => by simp [Op.bytesLess]
 | [], _ :: _ => by simp [Op.bytesLess]
 | a :: x, b :: y => by
  simp only [Op.bytesLess, qB4 x y, List.cons_lt_cons_iff]
  by_cases h1 : a < b <;> by_cases h2 : a = b <;> by_cases h3 : x < y <;> simp [h1, h2, h3]
theorem qw9 {a b : List UInt8} (h : a ≤ b) (hne : a ≠ b) : kl (qce a) (qce b) = true := by
 unfold kl; rw [Lib.toList_data, Lib.toList_data, qB4]; simp only [qce]; rcases List.le_iff_lt_or_eq.1 h with h | h
 · exact decide_eq_true h
 · exact absurd h hne
theorem qp7 : ∀ S : List (List UInt8), S.map encStr = (S.map qce).flatMap txtE
 | [] => rfl
 | a :: S => by rw [List.map_cons, qp7 S]; rfl
theorem qwa (r : Nat) (W : World) : Calls prog 298 #[.map (some r)] W fun e w' => e = .returned (.func (.func 335) #[] #[.pointer (some ⟨W.heap.size, 0, none⟩)]) ∧ w' = W.alloc (.cells #[.map (some r)] 195) := callsIn_wide.1 (qss (some r) W)
def qub (L : List qa3) (K : List ByteArray) : Prop := K.Perm (L.map (·.key)) ∧ K.Pairwise fun a b => kl a b = true
def qul (L : List qa3) (lo : Nat) (w : World) (e : Ending) (w' : World) : Prop := ∃ A c K, e = .returned (.slice A K.length c) ∧ Own txtE 9 1 w' lo A c K ∧ Below lo w w' ∧ qub L K
theorem qpx (r : Nat) (L : List qa3) (w : World) (h : MapL w r L) (hs : ∀ x ∈ L, x.key.size ≤ 1000000) (hl : L.length ≤ 1000000) : Calls prog 297 #[.func (.func 335) #[] #[.pointer (some ⟨w.heap.size, 0, none⟩)]] (w.alloc (.cells #[.map (some r)] 195)) (qul L (w.heap.size + 1) (w.alloc (.cells #[.map (some r)] 195))) := by
 have hnd := h.nodup; obtain ⟨D, hown, hsz, hperm⟩ := h.owns hs hl; refine (callsIn_wide.1 (qmz r L.length D R0 w hown (by rw [hsz]; unfold maxLen; omega) (by rw [hsz]; omega))).mono ?_; rintro e w' ⟨v, ss, rfl, hp, hrow, _, hb⟩; simp only [World.size_alloc] at hrow hb; obtain ⟨S, hS⟩ : ∃ S, S = ss.mergeSort (fun x y => decide (x ≤ y)) := ⟨_, rfl⟩; have hSp : S.Perm ss := by rw [hS]; exact List.mergeSort_perm _ _
 have hSL : S.Perm (L.map fun x => qdb x.key) := (hSp.trans hp).trans hperm; have hSw : S.Pairwise fun a b => a ≤ b := by
  have := List.pairwise_mergeSort (le := fun x y : List UInt8 => decide (x ≤ y)) (fun a b c h1 h2 => by simp only [decide_eq_true_eq] at *; exact List.le_trans h1 h2) (fun a b => by simp only [Bool.or_eq_true, decide_eq_true_eq]; exact List.le_total a b) ss; rw [hS]; exact this.imp fun h => by simpa using h
 have hSn : S.Nodup := by
  refine hSL.nodup_iff.2 ?_; have h2 : ((L.map (·.key)).map qdb).Nodup := by
   rw [List.Nodup, List.pairwise_map]; exact List.Pairwise.imp (fun {a b} hab he => hab (by rw [← qfu a, ← qfu b, he])) hnd
  rwa [List.map_map] at h2
 rw [← hS] at hrow; have hlen : S.length = ss.length := hSp.length_eq; have hcells := qp7 S; rw [hcells] at hrow; obtain ⟨A, c, rfl, ho⟩ := Own.of_row (l := S.map qce) qoh hrow (by rw [List.length_map, hlen]); refine ⟨A, c, S.map qce, rfl, ho, hb, ?_, ?_⟩
 · have := hSL.map qce
   rw [List.map_map] at this; have e : (L.map (qce ∘ fun x => qdb x.key)) = L.map (·.key) := List.map_congr_left fun x _ => qfu x.key
   rwa [e] at this
 · rw [List.pairwise_map]
   exact hSw.imp₂ (fun a b h1 h2 => qw9 h1 h2) hSn
end
section
open Go.RowKit
def qgo (pos : ByteArray) (past : Bool) (k : ByteArray) : Bool := !past || kl pos k
def qes (L : List qa3) (pos : ByteArray) (past : Bool) : Option qa3 → Prop
 | some x => x ∈ L ∧ qgo pos past x.key = true ∧ ∀ y ∈ L, qgo pos past y.key = true → y = x ∨ kl x.key y.key = true
 | none => ∀ y ∈ L, qgo pos past y.key = false
theorem qy8 (k p : ByteArray) : (!(Op.bytesLess k.toList p.toList || k.toList == p.toList)) = kl p k := by
 show (!(kl k p || k.toList == p.toList)) = kl p k
 cases h : kl p k with
 | true =>
  have h1 := qei h; have h2 : (k.toList == p.toList) = false := by
   rw [beq_eq_false_iff_ne]; intro e; have := qbu e; subst this; rw [qdh] at h; cases h
  rw [h1, h2]; rfl
 | false =>
  cases h1 : kl k p with
  | true => rfl
  | false =>
   have := qp0 h1 h; subst this; simp
theorem qne {L : List qa3} (hn : (L.map (·.key)).Nodup) {x : qa3} (hx : x ∈ L) : qd0 L x.key = some x := by
 obtain ⟨j, hj, rfl⟩ := List.getElem_of_mem hx; refine List.find?_eq_some_iff_getElem.2 ⟨by simp, j, hj, rfl, fun i hi => ?_⟩; have := List.pairwise_iff_getElem.1 hn i j (by simp; omega) (by simpa using hj) hi; simpa using this
theorem qwb {L : List qa3} (hn : (L.map (·.key)).Nodup) {x y : qa3} (hx : x ∈ L) (hy : y ∈ L) (e : x.key = y.key) : x = y := by
 have h1 := qne hn hx; have h2 := qne hn hy; rw [e] at h1; exact Option.some.inj (h1.symm.trans h2)
theorem qyw {L : List qa3} {K : List ByteArray} {pos : ByteArray} {past : Bool} (hn : (L.map (·.key)).Nodup) (hK : qub L K) {i : Nat} (hi : i < K.length) (hc : qgo pos past K[i] = true) (hb : ∀ j (h : j < K.length), j < i → qgo pos past K[j] = false) : ∃ x, qd0 L K[i] = some x ∧ qes L pos past (some x) := by
 have hm : K[i] ∈ L.map (·.key) := (hK.1.mem_iff).1 (List.getElem_mem hi); obtain ⟨x, hx, hxe⟩ := List.mem_map.1 hm; refine ⟨x, by rw [← hxe]; exact qne hn hx, hx, by rw [hxe]; exact hc, fun y hy hcy => ?_⟩; have hym : y.key ∈ K := (hK.1.mem_iff).2 (List.mem_map.2 ⟨y, hy, rfl⟩); obtain ⟨j, hj, hje⟩ := List.getElem_of_mem hym; rcases Nat.lt_trichotomy j i with h | h | h
 · have := hb j hj h
   rw [hje, hcy] at this; cases this
 · subst h
   exact .inl (qwb hn hy hx (by rw [← hje, hxe]))
 · right
   rw [hxe, ← hje]; exact List.pairwise_iff_getElem.1 hK.2 i j hi hj h
theorem qs9 {L : List qa3} {K : List ByteArray} {pos : ByteArray} {past : Bool} (hK : qub L K) (hb : ∀ j (h : j < K.length), qgo pos past K[j] = false) : qes L pos past none := fun y hy => by
 obtain ⟨j, hj, hje⟩ := List.getElem_of_mem ((hK.1.mem_iff).2 (List.mem_map.2 ⟨y, hy, rfl⟩))
 rw [← hje]
 exact hb j hj
theorem Arr.txt1 {w : World} {B : Nat} {A : Option Addr} {l : List ByteArray} (h : Arr txtE 1 w B A l) {i : Nat} (hi : i < l.length) : ∃ b off, A = some ⟨b, off, none⟩ ∧ b < B ∧ w.cell? ⟨b, off + i, none⟩ = some (.string l[i]) := by
 rcases h with h | ⟨b, off, hA, hB, hc⟩
 · subst h; simp at hi
 · refine ⟨b, off, hA, hB, ?_⟩
   have := hc i hi 0 _ rfl; simpa using this
def quh (L : List qa3) (pos : ByteArray) (past : Bool) (w : World) (e : Ending) (w' : World) : Prop := ∃ r : Option qa3, e = .returned (.tuple #[(r.getD qak).val, .bool r.isSome]) ∧ qes L pos past r ∧ Below w.heap.size w w'
section
variable {F : Nat → Prop} {w : World} {tb : Nat} {mb : Nat → Nat} {B : Nat → List qa3}
theorem qh5 (h : qbk F w tb mb B) (k : Nat) (hk : k < 8) (pos : ByteArray) (past : Bool) (hl : (B k).length ≤ 1000000) : Calls prog 239 #[.pointer (some ⟨tb, 0, none⟩), .int .i64 (k : Int), .string pos, .bool past] w (quh (B k) pos past w) := by
 have H := hid h; have hk0 : (0 : Int) ≤ (k : Int) := by omega
 have hk8 : (k : Int) < 8 := by omega
 have hkn0 : ¬ (k : Int) < 0 := by omega
 have hkn8 : ¬ (8 : Int) ≤ (k : Int) := by omega
 have HKL := hid hl; have HBK := hid (h.bkt k hk); clear h hl; go_enter func239, ntmps239; go_upto_region 1 with fail; generalize hw1 : World.alloc w _ = w1; have b1 : Below w.heap.size w w1 := by rw [← hw1]; exact (Below.refl _ _).alloc (Nat.le_refl _) _
 have R1 : w1.heap[w.heap.size]? = some (.cells qak.enc.toArray 85 (0, 0)) := by rw [← hw1]; exact (qa2 _ _ _).trans (if_pos rfl)
 have HR1 := hid R1; have HB1 := hid b1; have H1 := hid (H.out.below b1); have hl1 := qa0 R1; have ht1 := H1.out.lt; have tc := H1.out.cell hk; clear hw1 R1 b1; go_wp2_with fail; refine (qwa (mb k) w1).mono ?_; rintro e w2 ⟨rfl, rfl⟩; go_wp2_with fail; refine (qpx (mb k) (B k) w1 (H1.out.map k hk) (fun x hx => (HBK.out x hx).2) HKL.out).mono ?_; rintro e w3 ⟨A, c, K, rfl, hown, hb, hKO⟩; try simp only [World.size_alloc] at hb
 have b13 : Below w1.heap.size w1 w3 := ((Below.refl _ _).alloc (Nat.le_refl _) _).trans (hb.mono (Nat.le_succ _)); have H3 := hid (H1.out.below b13); have HB3 := hid (HB1.out.trans (b13.mono HB1.out.size)); have HR3 := hid ((b13.block _ hl1).trans HR1.out); have HO := hid hown; have HKO := hid hKO; have hKl : K.length ≤ 1000000 := by rw [hKO.1.length_eq, List.length_map]; exact HKL.out
 have hl3 := qa0 HR3.out; clear hown hb hKO b13 tc; go_wp2_with fail; go_loopw [12, 34] (fun _ v34 wr => ∃ i : Nat, i ≤ K.length ∧ v34 = .int .i64 i ∧ wr = w3 ∧ Hid (∀ j (h : j < K.length), j < i → qgo pos past K[j] = false)) (fun _ v34 _ => K.length - (intOf v34).toNat)
 case atStart => exact ⟨0, by omega, rfl, rfl, hid fun j _ h => absurd h (by omega)⟩
 case round =>
  obtain ⟨i, hi, rfl, rfl, HC⟩ := hrel; by_cases hlt : i < K.length
  · have hlti : (i : Int) < (K.length : Int) := by omega
    have hii : (0 : Int) ≤ (i : Int) := by omega
    obtain ⟨b, off, rfl, hB, c0⟩ := (HO.out.arr qoh).txt1 hlt; cases hc : qgo pos past K[i] with
    | true =>
     have HX := hid hc; obtain ⟨x, hx1, hx2⟩ := qyw (H3.out.map k hk).nodup HKO.out hlt hc HC.out; have lk := qw6 (H3.out.map k hk) K[i]; rw [hx1] at lk; have HNX := hid hx2; have HXV := hid (show x.val = .agg #[.string x.key, .int .u64 (x.id : Int), .int .u64 (x.ver : Int), .int .i64 x.line, .int .i64 x.cls] from rfl); simp only [Option.getD_some] at lk; rw [HXV.out] at lk; have f0 := frozen_of_row wr _ 0 _ _ HR3.out; have f1 := frozen_of_row wr _ 1 _ _ HR3.out; have f2 := frozen_of_row wr _ 2 _ _ HR3.out; have f3 := frozen_of_row wr _ 3 _ _ HR3.out; have f4 := frozen_of_row wr _ 4 _ _ HR3.out; have q0 := cell_of_row wr _ 0 _ _ _ HR3.out; have q1 := cell_of_row wr _ 1 _ _ _ HR3.out; have q2 := cell_of_row wr _ 2 _ _ _ HR3.out; have q3 := cell_of_row wr _ 3 _ _ _ HR3.out; have q4 := cell_of_row wr _ 4 _ _ _ HR3.out; simp only [qa3.enc, List.getElem?_toArray, List.getElem?_cons_zero, List.getElem?_cons_succ] at q0 q1 q2 q3 q4; clear hc hx1 hx2; cases past with
     | false =>
      go_wp2_with fail; refine bodyPost_ret (v := .tuple #[x.val, .bool true]) (qdq results239 _ _ w.heap.size x _ (by simp) (by simp) (box5 HR3.out)) rfl ⟨some x, rfl, HNX.out, ?_⟩; exact qae (Nat.le_refl _) x.enc 0 wr HB3.out
     | true =>
      have hg : kl pos K[i] = true := by have := HX.out; simpa [qgo] using this
      have hgg := qy8 K[i] pos; rw [hg] at hgg; have hg2 : (Op.bytesLess K[i].toList pos.toList || K[i].toList == pos.toList) = false := by simpa using hgg
      clear hg hgg; go_wp2_with fail; refine bodyPost_ret (v := .tuple #[x.val, .bool true]) (qdq results239 _ _ w.heap.size x _ (by simp) (by simp) (box5 HR3.out)) rfl ⟨some x, rfl, HNX.out, ?_⟩; exact qae (Nat.le_refl _) x.enc 0 wr HB3.out
    | false =>
     have HX := hid hc; clear hc; cases past with
     | false => have := HX.out; simp [qgo] at this
     | true =>
      have hg : kl pos K[i] = false := by have := HX.out; simpa [qgo] using this
      have hgg := qy8 K[i] pos; rw [hg] at hgg; have hg2 : (Op.bytesLess K[i].toList pos.toList || K[i].toList == pos.toList) = true := by
       revert hgg; cases (Op.bytesLess K[i].toList pos.toList || K[i].toList == pos.toList) <;> simp
      clear hg hgg; have HN1 : Hid (∀ j (h : j < K.length), j < i + 1 → qgo pos true K[j] = false) := hid fun j hj hji => by
       rcases (by omega : j < i ∨ j = i) with h | rfl
       · exact HC.out j hj h
       · exact HX.out
      have hi1 : Hid (i + 1 ≤ K.length) := hid hlt; have hmes : Hid (K.length - (i + 1) < K.length - i) := hid (by omega); go_wp2_with fail; refine ⟨⟨i + 1, hi1.out, by go_num, by first | rfl | trivial, HN1⟩, ?_⟩; have := hmes.out; simp [intOf]; omega
  · obtain rfl : i = K.length := by omega
    have HR3' : Hid (wr.heap[w.heap.size]? = some (.cells #[.string ByteArray.empty, .int .u64 0, .int .u64 0, .int .i64 0, .int .i64 0] 85 (0, 0))) := hid HR3.out; have f0 := frozen_of_row wr _ 0 _ _ HR3'.out; have f1 := frozen_of_row wr _ 1 _ _ HR3'.out; have f2 := frozen_of_row wr _ 2 _ _ HR3'.out; have f3 := frozen_of_row wr _ 3 _ _ HR3'.out; have f4 := frozen_of_row wr _ 4 _ _ HR3'.out; have q0 := cell_of_row wr _ 0 _ _ _ HR3'.out; have q1 := cell_of_row wr _ 1 _ _ _ HR3'.out; have q2 := cell_of_row wr _ 2 _ _ _ HR3'.out; have q3 := cell_of_row wr _ 3 _ _ _ HR3'.out; have q4 := cell_of_row wr _ 4 _ _ _ HR3'.out; have HFIN := hid (qB3 (a' := .string ByteArray.empty) (c' := .int .u64 0) (d' := .int .u64 0) (e' := .int .i64 0) (f' := .int .i64 0) HR3'.out); go_wp2_with fail; refine bodyPost_ret (v := .tuple #[qak.val, .bool false]) (qdq results239 _ _ w.heap.size qak _ (by simp) (by simp) HFIN.out) rfl ⟨none, rfl, qs9 HKO.out fun j hj => HC.out j hj hj, ?_⟩; exact ((((HB3.out.setCell (p := ⟨w.heap.size, 0, none⟩) (Nat.le_refl _) _).setCell (p := ⟨w.heap.size, 1, none⟩) (Nat.le_refl _) _).setCell (p := ⟨w.heap.size, 2, none⟩) (Nat.le_refl _) _).setCell (p := ⟨w.heap.size, 3, none⟩) (Nat.le_refl _) _).setCell (p := ⟨w.heap.size, 4, none⟩) (Nat.le_refl _) _
end
end
end Go.Proofs.YtecikkjbnkhhkaaGreat
