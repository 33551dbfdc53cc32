/- A part of the walk. -/
import Derived.Test.YtecikkjbnkhhkaaGreatP16
import Derived.Test.YtecikkjbnkhhkaaGreatP15
namespace Go.Proofs.YtecikkjbnkhhkaaGreat
open _root_.Go.Proofs.Tryz
set_option maxHeartbeats 8000000
set_option maxRecDepth 100000
section
open Go.RowKit
def quz (S : List qan) (c : Int) (i k : Nat) (ok : Bool) : Prop :=
 (ok = true → ∃ hi : i < S.length, k < 8 ∧ ((S[i].cls = c ∧ k < 8 / qa9 c ∧ ∃ hk : k < S[i].taken.length, S[i].taken[k] = false) ∨ (S[i].cls = -1 ∧ k = 0 ∧ ∀ j (hj : j < S.length), j < i → ¬ S[j].cls = -1))) ∧
 (ok = false → ∀ j (hj : j < S.length), ¬ S[j].cls = -1)
def qur (S : List qan) (c : Int) (w : World) (e : Ending) (w' : World) : Prop := w' = w ∧ ∃ (i k : Nat) (ok : Bool), e = .returned (.tuple #[.int .i64 (i : Int), .int .i64 (k : Int), .bool ok]) ∧ quz S c i k ok
theorem qwn (w : World) (lo p sc : Nat) (S : List qan) (h : qb8 w lo p sc S) (c : Int) (hc : ¬ qa9 c = 0) : Calls prog 336 #[.pointer (some ⟨p, 0, none⟩), .int .i64 c] w (qur S c w) := by
 have H := hid h; have hp := qa0 h.box; have p0 := cell_of_row w p 0 _ _ _ h.box; have hlen := h.len; have T := hid (qhi w lo p sc S h); have hsc := (h.slab (i := 0) (by omega)).lt; clear h; go_enter func336, ntmps336; go_wp2_with fail; refine T.out.mono ?_; rintro e w1 ⟨rfl, rfl⟩; go_wp2_with fail; go_loopw [7, 8, 9, 14] (fun _ _ _ v14 wr => ∃ i : Nat, i ≤ S.length ∧ v14 = .int .i64 i ∧ wr = w1) (fun _ _ _ v14 _ => S.length - (intOf v14).toNat)
 case atStart => exact ⟨0, by omega, rfl, rfl⟩
 case round =>
  obtain ⟨i, hi, rfl, rfl⟩ := hrel; by_cases hlt : i < S.length
  · have hlti : (i : Int) < (S.length : Int) := by omega
    have hs := H.out.slab hlt; have c0 := hs.cls; have HS := hid hs; by_cases hcc : S[i].cls = c
    · have HFR := hid (qt4 wr sc i S[i] hs (by rw [hcc]; exact hc))
      have hce : (S[i].cls == c) = true := by rw [beq_iff_eq]; exact hcc
      have HCC := hid hcc; clear hs hcc; go_wp2_with fail; refine HFR.out.mono ?_; rintro e w2 ⟨rfl, r, rfl, hr⟩; rcases hr with ⟨rfl, -⟩ | ⟨k, hk, rfl, hkq, hkf⟩
      · clear hce
        go_wp2_with fail; exact ⟨⟨i + 1, by omega, by go_num, trivial⟩, by simp [intOf]; omega⟩
      · have hne : ((k : Int) == -1) = false := by rw [beq_eq_false_iff_ne]; omega
        have hne' : ((k : Int) != -1) = true := by rw [bne_iff_ne]; omega
        have HK := hid (And.intro hkq (And.intro hk hkf)); clear hkq hkf hce; go_wp2_with fail; have h8 : k < 8 := by rw [S[i].ht] at hk; exact hk
        refine bodyPost_ret (v := .tuple #[.int .i64 (i : Int), .int .i64 (k : Int), .bool true]) (by simp [results, results336]) rfl ⟨rfl, i, k, true, rfl, fun _ => ⟨hlt, h8, .inl ⟨HCC.out, by rw [← HCC.out]; exact HK.out.1, HK.out.2.1, HK.out.2.2⟩⟩, fun h => by cases h⟩
    · have hce : (S[i].cls == c) = false := by rw [beq_eq_false_iff_ne]; exact hcc
      clear hs hcc; go_wp2_with fail; exact ⟨⟨i + 1, by omega, by go_num, trivial⟩, by simp [intOf]; omega⟩
  · obtain rfl : i = S.length := by omega
    go_wp2_with fail; refine T.out.mono ?_; rintro e w2 ⟨rfl, rfl⟩; go_wp2_with fail; obtain ⟨wo, hwo⟩ : ∃ x, x = w2 := ⟨_, rfl⟩; subst hwo; clear hi hlt; go_loopw [10, 39] (fun _ v39 wr => ∃ i : Nat, i ≤ S.length ∧ v39 = .int .i64 i ∧ wr = wo ∧ ∀ j (hj : j < S.length), j < i → ¬ S[j].cls = -1) (fun _ v39 _ => S.length - (intOf v39).toNat)
    case atStart => exact ⟨0, by omega, rfl, rfl, fun j _ hj => absurd hj (by omega)⟩
    case round =>
     obtain ⟨i, hi, rfl, rfl, hall⟩ := hrel; have HALL := hid hall; clear hall; by_cases hlt : i < S.length
     · have hlti : (i : Int) < (S.length : Int) := by omega
       have hs := H.out.slab hlt; have c0 := hs.cls; by_cases hcc : S[i].cls = -1
       · have HCC := hid hcc
         rw [hcc] at c0; clear hs hcc; go_wp2_with fail; refine bodyPost_ret (v := .tuple #[.int .i64 (i : Int), .int .i64 0, .bool true]) (by simp [results, results336]) rfl ⟨rfl, i, 0, true, rfl, fun _ => ⟨hlt, by omega, .inr ⟨HCC.out, rfl, HALL.out⟩⟩, fun h => by cases h⟩
       · have HCC := hid hcc
         have hce : (S[i].cls == -1) = false := by rw [beq_eq_false_iff_ne]; exact hcc
         clear hs hcc; go_wp2_with fail; exact ⟨⟨i + 1, by omega, by go_num, trivial, fun j hj hji => by
          rcases (by omega : j < i ∨ j = i) with h1 | rfl
          · exact HALL.out j hj h1
          · exact HCC.out⟩, by simp [intOf]; omega⟩
     · obtain rfl : i = S.length := by omega
       go_wp2_with fail; refine bodyPost_ret (v := .tuple #[.int .i64 0, .int .i64 0, .bool false]) (by simp [results, results336]) rfl ⟨rfl, 0, 0, false, rfl, fun h => (by cases h), fun _ j hj => HALL.out j hj hj⟩
end
section
open Go.RowKit
structure EffC where
 kind : Int
 key : ByteArray
 val : ByteArray
 id : Nat
 ver : Nat
 ep : Nat
 grp : Int
def EffC.enc (x : EffC) : List Value := [.int .i64 x.kind, .string x.key, .string x.val, .int .u64 (x.id : Int), .int .u64 (x.ver : Int), .int .u64 (x.ep : Int), .int .i64 x.grp]
theorem EffC.enc_len (x : EffC) : x.enc.length = 7 := rfl
theorem EffC.enc_one (x : EffC) : ∀ u ∈ x.enc, u.oneCell' = true := by
 intro u hu; simp only [EffC.enc, List.mem_cons, List.not_mem_nil, or_false] at hu; rcases hu with rfl | rfl | rfl | rfl | rfl | rfl | rfl <;> rfl
structure qag where
 vp : Nat
 dp : Nat
 dc : Nat
 pp : Nat
 sc : Nat
 rp : Nat
 rc : Nat
 cp : Nat
 oc : Nat
 bp : Nat
 tb : Nat
 mb : Nat → Nat
 ob : Nat
 lp : Nat
structure qa4 where
 D : List qab
 S : List qan
 rnow : Nat
 H : List Nat
 now : Nat
 dur : Nat
 clo : Nat
 owed : List Int
 noted : List Bool
 left : List Bool
 step : Value
 bag : List EntC
 T : Nat → List qa3
 O : List qa3
 Q : List qa3
 qn : Nat
 id : Nat
 ver : Nat
 E : List EffC
 eA : Option Addr
 ec : Nat
def qje (P : qag) (id ver : Nat) (eA : Option Addr) (en ec : Nat) : List Value :=
 [.pointer (some ⟨P.vp, 0, none⟩), .pointer (some ⟨P.pp, 0, none⟩), .pointer (some ⟨P.rp, 0, none⟩), .pointer (some ⟨P.cp, 0, none⟩), .pointer (some ⟨P.bp, 0, none⟩), .pointer (some ⟨P.tb, 0, none⟩), .pointer (some ⟨P.ob, 0, none⟩), .pointer (some ⟨P.lp, 0, none⟩), .int .u64 (id : Int), .int .u64 (ver : Int), .slice eA en ec]
def qc8 (g : Own8) (i : Nat) (A : Option Addr) (c : Nat) : Prop := ∀ b, qa8 A c = some b → g b = i
def CBox (g : Own8) (w : World) (a : Nat) (P : qag) (id ver : Nat) (eA : Option Addr) (en ec : Nat) : Prop := w.heap[a]? = some (.cells (qje P id ver eA en ec).toArray 127 (0, 0)) ∧ g a = 1
def CEff (g : Own8) (w : World) (eA : Option Addr) (ec : Nat) (E : List EffC) : Prop := Own EffC.enc 70 7 w 0 eA ec E ∧ qc8 g 10 eA ec
def CDev (g : Own8) (w : World) (vp dp dc : Nat) (D : List qab) : Prop := w.cell? ⟨vp, 0, none⟩ = some (.pointer (some ⟨dp, 0, none⟩)) ∧ qbb w 0 dp dc D ∧ g vp = 11 ∧ g dp = 2 ∧ g dc = 2
def qxx (g : Own8) (w : World) (pp sc : Nat) (S : List qan) : Prop := qb8 w 0 pp sc S ∧ g pp = 3 ∧ g sc = 3
def CRd (g : Own8) (w : World) (rp rc now : Nat) (H : List Nat) : Prop := RdAt w 0 rp rc now H ∧ g rp = 4 ∧ g rc = 4
def CClk (g : Own8) (w : World) (cp oc now dur clo : Nat) (owed : List Int) (noted left : List Bool) (step : Value) : Prop := qbi w 0 cp oc now dur clo owed noted left step ∧ g cp = 5 ∧ g oc = 5
def CBag (g : Own8) (w : World) (bp : Nat) (l : List EntC) : Prop := ∃ A c, qfi w 0 bp A c l ∧ g bp = 6 ∧ qc8 g 6 A c
def CTab (g : Own8) (w : World) (tb : Nat) (mb : Nat → Nat) (T : Nat → List qa3) : Prop := qbk (fun j => g j = 7) w tb mb T
def COrd (g : Own8) (w : World) (ob : Nat) (O : List qa3) : Prop := Ord (fun j => g j = 8) w ob (atLv O)
def qxy (g : Own8) (w : World) (lp : Nat) (Q : List qa3) (qn : Nat) : Prop := ∃ A c, qmi w 0 lp A c Q ∧ g lp = 9 ∧ qc8 g 9 A c ∧ Ring w lp qn
structure qa6 (g : Own8) (w : World) (a : Nat) (P : qag) (M : qa4) : Prop where
 far : Far g w
 box : CBox g w a P M.id M.ver M.eA M.E.length M.ec
 eff : CEff g w M.eA M.ec M.E
 dev : CDev g w P.vp P.dp P.dc M.D
 pool : qxx g w P.pp P.sc M.S
 rd : CRd g w P.rp P.rc M.rnow M.H
 clk : CClk g w P.cp P.oc M.now M.dur M.clo M.owed M.noted M.left M.step
 bag : CBag g w P.bp M.bag
 tab : CTab g w P.tb P.mb M.T
 ord : COrd g w P.ob M.O
 line : qxy g w P.lp M.Q M.qn
structure Ext (g g' : Own8) (w w' : World) : Prop where
 old : ∀ b, b < w.heap.size → g' b = g b
 only : Only (fun j => 0 < g j) w w'
theorem Ext.refl (g : Own8) (w : World) : Ext g g w w := ⟨fun _ _ => rfl, Only.refl _ _⟩
theorem Ext.trans {g g1 g2 : Own8} {w w1 w2 : World} (h : Ext g g1 w w1) (k : Ext g1 g2 w1 w2) : Ext g g2 w w2 := by
 have hs := h.only.size; refine ⟨fun b hb => (k.old b (by omega)).trans (h.old b hb), ⟨k.only.os.trans h.only.os, k.only.tape.trans h.only.tape, k.only.output.trans h.only.output, Nat.le_trans hs k.only.size, fun j hj hn => ?_⟩⟩; exact (k.only.block j (by omega) (by rw [h.old j hj]; exact hn)).trans (h.only.block j hj hn)
theorem Ext.below {g : Own8} {w w' : World} (h : Below w.heap.size w w') : Ext g g w w' := ⟨fun _ _ => rfl, Only.of_below h⟩
theorem Ext.nobody {g g' : Own8} {w w' : World} (h : Ext g g' w w') {b : Nat} (hb : b < w.heap.size) (h0 : g b = 0) : w'.heap[b]? = w.heap[b]? := h.only.block b hb (by omega)
section
variable {g : Own8} {w w' : World} {a : Nat} {P : qag} {M : qa4}
theorem qcg {α : Type} {enc : α → List Value} {e : TypeId} {n lo : Nat} {l : List α} {A : Option Addr} {c : Nat} (ho : Own enc e n w lo A c l) : ∀ b, qa8 A c = some b → b < w.heap.size := fun b hb => by
 rcases ho.lt with h0 | ⟨b', off, hA, _, hlt⟩
 · rw [qa8, if_pos h0] at hb; cases hb
 · rw [qa8] at hb
   split at hb
   · cases hb
   · rw [hA] at hb; cases hb; exact hlt
abbrev qcx (g : Own8) (i : Nat) (w w' : World) : Prop := Only (fun j => g j = i ∨ w.heap.size ≤ j) w w'
theorem no_i {i b k : Nat} (hb : b < w.heap.size) (hk : g b = k) (hne : i ≠ k) : ¬ (g b = i ∨ w.heap.size ≤ b) := by omega
section
variable {i : Nat} (ho : qcx g i w w')
include ho
theorem CBox.keep {id ver : Nat} {eA : Option Addr} {en ec : Nat} (h : CBox g w a P id ver eA en ec) (hi : i ≠ 1) : CBox (mark g w w' i) w' a P id ver eA en ec := by
 have l1 := qa0 h.1; exact ⟨(ho.block _ l1 (no_i l1 h.2 hi)).trans h.1, (qat l1).trans h.2⟩
omit ho in
theorem qc8.keep {k : Nat} {A : Option Addr} {c : Nat} (h : qc8 g k A c) (hl : ∀ b, qa8 A c = some b → b < w.heap.size) : qc8 (mark g w w' i) k A c := fun b hb => (qat (hl b hb)).trans (h b hb)
theorem CEff.keep {eA : Option Addr} {ec : Nat} {E : List EffC} (h : CEff g w eA ec E) (hi : i ≠ 10) : CEff (mark g w w' i) w' eA ec E :=
 ⟨ho.rows (fun b hb => no_i (qcg h.1 b hb) (h.2 b hb) hi) h.1, qc8.keep h.2 (qcg h.1)⟩
theorem CDev.keep {vp dp dc : Nat} {D : List qab} (h : CDev g w vp dp dc D) (hi : i ≠ 2) (hi' : i ≠ 11) : CDev (mark g w w' i) w' vp dp dc D := by
 obtain ⟨h1, h2, h3, h4, h5⟩ := h; have l0 : vp < w.heap.size := qnz h1; have l1 : dp < w.heap.size := by obtain ⟨⟨_, _, _, _, _, hb⟩, _, _, _⟩ := h2; exact qa0 hb
 have l2 : dc < w.heap.size := (h2.line (i := 0) (by have := h2.len; omega)).lt; exact ⟨(qaj (p := ⟨vp, 0, none⟩) (ho.block _ l0 (no_i l0 h3 hi'))).trans h1, h2.only ho (no_i l1 h4 hi) (no_i l2 h5 hi), (qat l0).trans h3, (qat l1).trans h4, (qat l2).trans h5⟩
theorem qxx.keep {pp sc : Nat} {S : List qan} (h : qxx g w pp sc S) (hi : i ≠ 3) : qxx (mark g w w' i) w' pp sc S := by
 obtain ⟨h1, h2, h3⟩ := h; have l1 := qa0 h1.box; have l2 : sc < w.heap.size := (h1.slab (i := 0) (by have := h1.len; omega)).lt; exact ⟨h1.only ho (no_i l1 h2 hi) (no_i l2 h3 hi), (qat l1).trans h2, (qat l2).trans h3⟩
theorem CRd.keep {rp rc now : Nat} {H : List Nat} (h : CRd g w rp rc now H) (hi : i ≠ 4) : CRd (mark g w w' i) w' rp rc now H := by
 obtain ⟨h1, h2, h3⟩ := h; have l1 := qa0 h1.box; have l2 := qa0 h1.rows; exact ⟨h1.only ho (no_i l1 h2 hi) (no_i l2 h3 hi), (qat l1).trans h2, (qat l2).trans h3⟩
theorem CClk.keep {cp oc now dur clo : Nat} {owed : List Int} {noted left : List Bool} {step : Value} (h : CClk g w cp oc now dur clo owed noted left step) (hi : i ≠ 5) : CClk (mark g w w' i) w' cp oc now dur clo owed noted left step := by
 obtain ⟨h1, h2, h3⟩ := h; have l1 := qa0 h1.box; have l2 := qa0 h1.rows; exact ⟨h1.only ho (no_i l1 h2 hi) (no_i l2 h3 hi), (qat l1).trans h2, (qat l2).trans h3⟩
theorem CBag.keep {bp : Nat} {l : List EntC} (h : CBag g w bp l) (hi : i ≠ 6) : CBag (mark g w w' i) w' bp l := by
 obtain ⟨A, c, h1, h2, h3⟩ := h; have l1 := qa0 h1.box; exact ⟨A, c, h1.only ho (no_i l1 h2 hi) (fun b hb => no_i (qcg h1.rows b hb) (h3 b hb) hi), (qat l1).trans h2, qc8.keep h3 (qcg h1.rows)⟩
theorem CTab.keep {tb : Nat} {mb : Nat → Nat} {T : Nat → List qa3} (h : CTab g w tb mb T) (hi : i ≠ 7) : CTab (mark g w w' i) w' tb mb T := by
 have l1 := h.lt; have h1 := h.own.1; have q : qbk (fun j => g j = 7) w' tb mb T := h.same (ho.block _ l1 (no_i l1 h1 hi)) fun k hk => ho.block _ (h.map k hk).lt (no_i (h.map k hk).lt (h.own.2 k hk) hi)
 exact ⟨q.box, q.map, q.inj, q.bkt, (qat l1).trans h1, fun k hk => (qat (h.map k hk).lt).trans (h.own.2 k hk)⟩
theorem COrd.keep {ob : Nat} {O : List qa3} (h : COrd g w ob O) (hi : i ≠ 8) : COrd (mark g w w' i) w' ob O := by
 have q : Ord (fun j => g j = 8 ∧ j < w.heap.size) w' ob (atLv O) := (Ord.trim h).only ho fun j hj => no_i hj.2 hj.1 hi
 exact q.mono fun j hj => (qat hj.2).trans hj.1
theorem qxy.keep {lp : Nat} {Q : List qa3} {qn : Nat} (h : qxy g w lp Q qn) (hi : i ≠ 9) : qxy (mark g w w' i) w' lp Q qn := by
 obtain ⟨A, c, ⟨L, at', n, h1, hq⟩, h2, h3, h4⟩ := h; have l1 := qa0 h1.box; exact ⟨A, c, ⟨L, at', n, h1.only ho (no_i l1 h2 hi) (fun b hb => no_i (qcg h1.rows b hb) (h3 b hb) hi), hq⟩, (qat l1).trans h2, qc8.keep h3 (qcg h1.rows), h4.same (ho.block _ l1 (no_i l1 h2 hi))⟩
end
theorem qcx.ext {i : Nat} (ho : qcx g i w w') (hi : 0 < i) : Ext g (mark g w w' i) w w' :=
 ⟨fun _ hb => qat hb, ⟨ho.os, ho.tape, ho.output, ho.size, fun j hj hn => ho.block j hj (by omega)⟩⟩
theorem qcx.of2 {i p q : Nat} (hs : Below 0 w w') (hk : ∀ b, b < w.heap.size → b ≠ p → b ≠ q → w'.heap[b]? = w.heap[b]?) (hp : g p = i) (hq : g q = i) : qcx g i w w' :=
 ⟨hs.os, hs.tape, hs.output, hs.size, fun j hj hn => hk j hj (fun e => hn (.inl (e ▸ hp))) (fun e => hn (.inl (e ▸ hq)))⟩
theorem qlj (hf : Far g w) : mark g w w' 0 = g := by
 funext b; unfold mark; split
 · rename_i h
   exact (hf b h.1).symm
 · rfl
theorem qa6.below (h : qa6 g w a P M) (hb : Below w.heap.size w w') : qa6 g w' a P M := by
 have ho : qcx g 0 w w' := Only.of_below hb; have e := qlj (w' := w') h.far; refine ⟨h.far.mono hb.size, ?_, ?_, ?_, ?_, ?_, ?_, ?_, ?_, ?_, ?_⟩
 · rw [← e]; exact h.box.keep ho (by decide)
 · rw [← e]; exact h.eff.keep ho (by decide)
 · rw [← e]; exact h.dev.keep ho (by decide) (by decide)
 · rw [← e]; exact h.pool.keep ho (by decide)
 · rw [← e]; exact h.rd.keep ho (by decide)
 · rw [← e]; exact h.clk.keep ho (by decide)
 · rw [← e]; exact h.bag.keep ho (by decide)
 · rw [← e]; exact h.tab.keep ho (by decide)
 · rw [← e]; exact h.ord.keep ho (by decide)
 · rw [← e]; exact h.line.keep ho (by decide)
theorem qa6.nobody (h : qa6 g w a P M) (ho : qcx g 0 w w') : qa6 g w' a P M := by
 have e := qlj (w' := w') h.far; refine ⟨h.far.mono ho.size, ?_, ?_, ?_, ?_, ?_, ?_, ?_, ?_, ?_, ?_⟩
 · rw [← e]; exact h.box.keep ho (by decide)
 · rw [← e]; exact h.eff.keep ho (by decide)
 · rw [← e]; exact h.dev.keep ho (by decide) (by decide)
 · rw [← e]; exact h.pool.keep ho (by decide)
 · rw [← e]; exact h.rd.keep ho (by decide)
 · rw [← e]; exact h.clk.keep ho (by decide)
 · rw [← e]; exact h.bag.keep ho (by decide)
 · rw [← e]; exact h.tab.keep ho (by decide)
 · rw [← e]; exact h.ord.keep ho (by decide)
 · rw [← e]; exact h.line.keep ho (by decide)
def ATo (g : Own8) (w w' : World) (a : Nat) (P : qag) (M' : qa4) : Prop := ∃ g', qa6 g' w' a P M' ∧ Ext g g' w w'
theorem ATo.refl (h : qa6 g w a P M) : ATo g w w a P M := ⟨g, h, Ext.refl _ _⟩
theorem ATo.trans {g1 : Own8} {w1 : World} {M' : qa4} (h : Ext g g1 w w1) (k : ATo g1 w1 w' a P M') : ATo g w w' a P M' := by
 obtain ⟨g2, h1, h2⟩ := k; exact ⟨g2, h1, h.trans h2⟩
theorem qa6.setDev (h : qa6 g w a P M) (ho : qcx g 2 w w') {D : List qab} (hd : qbb w' 0 P.dp P.dc D) : ATo g w w' a P { M with D := D } := by
 obtain ⟨q1, q2, q3, q4, q5⟩ := h.dev; have l0 : P.vp < w.heap.size := qnz q1; have l1 : P.dp < w.heap.size := by obtain ⟨⟨_, _, _, _, _, hb⟩, _, _, _⟩ := q2; exact qa0 hb
 have l2 : P.dc < w.heap.size := (q2.line (i := 0) (by have := q2.len; omega)).lt; exact ⟨_, ⟨h.far.mark ho.size 2, h.box.keep ho (by decide), h.eff.keep ho (by decide), ⟨(qaj (p := ⟨P.vp, 0, none⟩) (ho.block _ l0 (no_i l0 q3 (by decide)))).trans q1, hd, (qat l0).trans q3, (qat l1).trans q4, (qat l2).trans q5⟩, h.pool.keep ho (by decide), h.rd.keep ho (by decide), h.clk.keep ho (by decide), h.bag.keep ho (by decide), h.tab.keep ho (by decide), h.ord.keep ho (by decide), h.line.keep ho (by decide)⟩, ho.ext (by decide)⟩
theorem qa6.setPool (h : qa6 g w a P M) (ho : qcx g 3 w w') {S : List qan} (hd : qb8 w' 0 P.pp P.sc S) : ATo g w w' a P { M with S := S } := by
 obtain ⟨q1, q2, q3⟩ := h.pool; have l1 := qa0 q1.box; have l2 : P.sc < w.heap.size := (q1.slab (i := 0) (by have := q1.len; omega)).lt; exact ⟨_, ⟨h.far.mark ho.size 3, h.box.keep ho (by decide), h.eff.keep ho (by decide), h.dev.keep ho (by decide) (by decide), ⟨hd, (qat l1).trans q2, (qat l2).trans q3⟩, h.rd.keep ho (by decide), h.clk.keep ho (by decide), h.bag.keep ho (by decide), h.tab.keep ho (by decide), h.ord.keep ho (by decide), h.line.keep ho (by decide)⟩, ho.ext (by decide)⟩
theorem qa6.setRd (h : qa6 g w a P M) (ho : qcx g 4 w w') {now : Nat} {H : List Nat} (hd : RdAt w' 0 P.rp P.rc now H) : ATo g w w' a P { M with rnow := now, H := H } := by
 obtain ⟨q1, q2, q3⟩ := h.rd; have l1 := qa0 q1.box; have l2 := qa0 q1.rows; exact ⟨_, ⟨h.far.mark ho.size 4, h.box.keep ho (by decide), h.eff.keep ho (by decide), h.dev.keep ho (by decide) (by decide), h.pool.keep ho (by decide), ⟨hd, (qat l1).trans q2, (qat l2).trans q3⟩, h.clk.keep ho (by decide), h.bag.keep ho (by decide), h.tab.keep ho (by decide), h.ord.keep ho (by decide), h.line.keep ho (by decide)⟩, ho.ext (by decide)⟩
theorem qa6.setClk (h : qa6 g w a P M) (ho : qcx g 5 w w') {now dur clo : Nat} {owed : List Int} {noted left : List Bool} {step : Value} (hd : qbi w' 0 P.cp P.oc now dur clo owed noted left step) : ATo g w w' a P { M with now := now, dur := dur, clo := clo, owed := owed, noted := noted, left := left, step := step } := by
 obtain ⟨q1, q2, q3⟩ := h.clk; have l1 := qa0 q1.box; have l2 := qa0 q1.rows; exact ⟨_, ⟨h.far.mark ho.size 5, h.box.keep ho (by decide), h.eff.keep ho (by decide), h.dev.keep ho (by decide) (by decide), h.pool.keep ho (by decide), h.rd.keep ho (by decide), ⟨hd, (qat l1).trans q2, (qat l2).trans q3⟩, h.bag.keep ho (by decide), h.tab.keep ho (by decide), h.ord.keep ho (by decide), h.line.keep ho (by decide)⟩, ho.ext (by decide)⟩
theorem qa6.setBag (h : qa6 g w a P M) (ho : qcx g 6 w w') {l : List EntC} {A : Option Addr} {c : Nat} (hd : qfi w' 0 P.bp A c l) (hr : qc8 (mark g w w' 6) 6 A c) : ATo g w w' a P { M with bag := l } := by
 obtain ⟨A0, c0, q1, q2, q3⟩ := h.bag; have l1 := qa0 q1.box; exact ⟨_, ⟨h.far.mark ho.size 6, h.box.keep ho (by decide), h.eff.keep ho (by decide), h.dev.keep ho (by decide) (by decide), h.pool.keep ho (by decide), h.rd.keep ho (by decide), h.clk.keep ho (by decide), ⟨A, c, hd, (qat l1).trans q2, hr⟩, h.tab.keep ho (by decide), h.ord.keep ho (by decide), h.line.keep ho (by decide)⟩, ho.ext (by decide)⟩
theorem qa6.setTab (h : qa6 g w a P M) (ho : qcx g 7 w w') {T : Nat → List qa3} (hd : qbk (fun j => g j = 7 ∧ j < w.heap.size) w' P.tb P.mb T) : ATo g w w' a P { M with T := T } :=
 ⟨_, ⟨h.far.mark ho.size 7, h.box.keep ho (by decide), h.eff.keep ho (by decide), h.dev.keep ho (by decide) (by decide), h.pool.keep ho (by decide), h.rd.keep ho (by decide), h.clk.keep ho (by decide), h.bag.keep ho (by decide), hd.mono fun j hj => (qat hj.2).trans hj.1, h.ord.keep ho (by decide), h.line.keep ho (by decide)⟩, ho.ext (by decide)⟩
theorem qa6.setOrd (h : qa6 g w a P M) (ho : qcx g 8 w w') {O : List qa3} (hd : Ord (fun j => g j = 8 ∨ w.heap.size ≤ j) w' P.ob (atLv O)) : ATo g w w' a P { M with O := O } := by
 refine ⟨_, ⟨h.far.mark ho.size 8, h.box.keep ho (by decide), h.eff.keep ho (by decide), h.dev.keep ho (by decide) (by decide), h.pool.keep ho (by decide), h.rd.keep ho (by decide), h.clk.keep ho (by decide), h.bag.keep ho (by decide), h.tab.keep ho (by decide), ?_, h.line.keep ho (by decide)⟩, ho.ext (by decide)⟩; refine (Ord.trim hd).mono fun j hj => ?_
 by_cases hlt : j < w.heap.size
 · rcases hj.1 with h1 | h1
   · exact (qat hlt).trans h1
   · omega
 · exact qos (by omega) hj.2
theorem qa6.setLine (h : qa6 g w a P M) (ho : qcx g 9 w w') {Q : List qa3} {A : Option Addr} {c : Nat} (hd : qmi w' 0 P.lp A c Q) (hr : qc8 (mark g w w' 9) 9 A c) {qn : Nat} (hg : Ring w' P.lp qn) : ATo g w w' a P { M with Q := Q, qn := qn } := by
 obtain ⟨A0, c0, ⟨L, at', n, q1, _⟩, q2, q3, q4⟩ := h.line; have l1 := qa0 q1.box; exact ⟨_, ⟨h.far.mark ho.size 9, h.box.keep ho (by decide), h.eff.keep ho (by decide), h.dev.keep ho (by decide) (by decide), h.pool.keep ho (by decide), h.rd.keep ho (by decide), h.clk.keep ho (by decide), h.bag.keep ho (by decide), h.tab.keep ho (by decide), h.ord.keep ho (by decide), ⟨A, c, hd, (qat l1).trans q2, hr, hg⟩⟩, ho.ext (by decide)⟩
theorem qa6.setNum (h : qa6 g w a P M) (id ver : Nat) (hw : w'.heap[a]? = some (.cells (qje P id ver M.eA M.E.length M.ec).toArray 127 (0, 0))) (ho : qcx g 1 w w') : ATo g w w' a P { M with id := id, ver := ver } :=
 ⟨_, ⟨h.far.mark ho.size 1, ⟨hw, (qat (qa0 h.box.1)).trans h.box.2⟩, h.eff.keep ho (by decide), h.dev.keep ho (by decide) (by decide), h.pool.keep ho (by decide), h.rd.keep ho (by decide), h.clk.keep ho (by decide), h.bag.keep ho (by decide), h.tab.keep ho (by decide), h.ord.keep ho (by decide), h.line.keep ho (by decide)⟩, ho.ext (by decide)⟩
end
end
section
open Go.RowKit
section
variable {g : Own8} {w : World} {a : Nat} {P : qag} {M : qa4}
theorem qa6.cells (h : qa6 g w a P M) : w.cell? ⟨a, 0, none⟩ = some (.pointer (some ⟨P.vp, 0, none⟩)) ∧ w.cell? ⟨a, 1, none⟩ = some (.pointer (some ⟨P.pp, 0, none⟩)) ∧ w.cell? ⟨a, 2, none⟩ = some (.pointer (some ⟨P.rp, 0, none⟩)) ∧ w.cell? ⟨a, 3, none⟩ = some (.pointer (some ⟨P.cp, 0, none⟩)) ∧ w.cell? ⟨a, 4, none⟩ = some (.pointer (some ⟨P.bp, 0, none⟩)) ∧ w.cell? ⟨a, 5, none⟩ = some (.pointer (some ⟨P.tb, 0, none⟩)) ∧ w.cell? ⟨a, 6, none⟩ = some (.pointer (some ⟨P.ob, 0, none⟩)) ∧ w.cell? ⟨a, 7, none⟩ = some (.pointer (some ⟨P.lp, 0, none⟩)) ∧ w.cell? ⟨a, 8, none⟩ = some (.int .u64 (M.id : Int)) ∧ w.cell? ⟨a, 9, none⟩ = some (.int .u64 (M.ver : Int)) ∧ w.cell? ⟨a, 10, none⟩ = some (.slice M.eA M.E.length M.ec) :=
 ⟨cell_of_row w a 0 _ _ _ h.box.1, cell_of_row w a 1 _ _ _ h.box.1, cell_of_row w a 2 _ _ _ h.box.1, cell_of_row w a 3 _ _ _ h.box.1, cell_of_row w a 4 _ _ _ h.box.1, cell_of_row w a 5 _ _ _ h.box.1, cell_of_row w a 6 _ _ _ h.box.1, cell_of_row w a 7 _ _ _ h.box.1, cell_of_row w a 8 _ _ _ h.box.1, cell_of_row w a 9 _ _ _ h.box.1, cell_of_row w a 10 _ _ _ h.box.1⟩
theorem qek (h : qa6 g w a P M) : Calls prog 32 #[.pointer (some ⟨a, 0, none⟩)] w fun e w' => e = .returned (.pointer (some ⟨P.dp, 0, none⟩)) ∧ w' = w := by
 have q0 := h.cells.1; have q1 := h.dev.1; clear h; go_enter func32, ntmps32; go_wp2; go_ret; exact ⟨rfl, rfl⟩
theorem qi1 (h : qa6 g w a P M) : Calls prog 300 #[.pointer (some ⟨a, 0, none⟩)] w fun e w' => e = .returned (.pointer (some ⟨P.pp, 0, none⟩)) ∧ w' = w := by
 have q0 := h.cells.2.1; clear h; go_enter func300, ntmps300; go_wp2; go_ret; exact ⟨rfl, rfl⟩
theorem qeb (h : qa6 g w a P M) : Calls prog 208 #[.pointer (some ⟨a, 0, none⟩)] w fun e w' => e = .returned (.pointer (some ⟨P.rp, 0, none⟩)) ∧ w' = w := by
 have q0 := h.cells.2.2.1; clear h; go_enter func208, ntmps208; go_wp2; go_ret; exact ⟨rfl, rfl⟩
theorem qcr (h : qa6 g w a P M) : Calls prog 40 #[.pointer (some ⟨a, 0, none⟩)] w fun e w' => e = .returned (.pointer (some ⟨P.cp, 0, none⟩)) ∧ w' = w := by
 have q0 := h.cells.2.2.2.1; clear h; go_enter func40, ntmps40; go_wp2; go_ret; exact ⟨rfl, rfl⟩
theorem qga (h : qa6 g w a P M) : Calls prog 59 #[.pointer (some ⟨a, 0, none⟩)] w fun e w' => e = .returned (.pointer (some ⟨P.tb, 0, none⟩)) ∧ w' = w := by
 have q0 := h.cells.2.2.2.2.2.1; clear h; go_enter func59, ntmps59; go_wp2; go_ret; exact ⟨rfl, rfl⟩
theorem qme (h : qa6 g w a P M) : Calls prog 62 #[.pointer (some ⟨a, 0, none⟩)] w fun e w' => e = .returned (.pointer (some ⟨P.lp, 0, none⟩)) ∧ w' = w := by
 have q0 := h.cells.2.2.2.2.2.2.2.1; clear h; go_enter func62, ntmps62; go_wp2; go_ret; exact ⟨rfl, rfl⟩
end
end
section
open Go.RowKit
def lvD (L : List qa3) (key : ByteArray) (k : Nat) : Nat → List qa3 := fun j => if j < k then qd9 (atLv L j) key else atLv L j
theorem qsj (L : List qa3) (key : ByteArray) (k : Nat) : lvD L key k k = atLv L k := by simp [lvD]
theorem qou (L : List qa3) (key : ByteArray) (k : Nat) (j : Nat) : upd (lvD L key k) k (qd9 (atLv L k) key) j = lvD L key (k + 1) j := by
 unfold upd lvD; by_cases h : j = k
 · subst h; simp
 · rw [if_neg h]
   by_cases h2 : j < k
   · rw [if_pos h2, if_pos (by omega)]
   · rw [if_neg h2, if_neg (by omega)]
theorem qk5 {L : List qa3} {key : ByteArray} {k : Nat} (h : hasL (atLv L k) key = false) (j : Nat) : lvD L key k j = lvD L key (k + 1) j := by
 rw [← qou, upd]; split
 · rename_i e
   rw [e, qsj, qj6 h]
 · rfl
theorem qz2 (L : List qa3) (key : ByteArray) (j : Nat) : lvD L key (qgn key) j = atLv (qd9 L key) j := by
 unfold lvD; split
 · rw [qsh]
 · rw [qlk (by assumption)]
theorem qs7 {F : Nat → Prop} {L : List qa3} {ob : Nat} (key : ByteArray) (w : World) (h : Ord F w ob (atLv L)) (hF : ∀ j, w.heap.size ≤ j → F j) (hr : Rise L) (hlen : L.length ≤ 50000) (hkey : key.size ≤ 1000000) :
 Calls prog 345 #[.pointer (some ⟨ob, 0, none⟩), .string key] w fun e w' => e = .returned (.bool (hasL L key)) ∧ Ord F w' ob (atLv (qd9 L key)) ∧ Only F w w' := by
 have hob := h.lt; have HO := hid h; have HR := hid hr; have HFr := hid hF; obtain ⟨n, hn⟩ : ∃ n, n = qgn key := ⟨_, rfl⟩; have hn4 := qhk key; rw [← hn] at hn4; have hlev : ∀ w, Calls prog 326 #[.string key] w fun e w' => e = .returned (.int .i64 (n : Nat)) ∧ w = w' := fun w => by rw [hn]; exact qiw key hkey w
 have HN := hid hn; have hn1 := hn4.1; have hn2 := hn4.2; clear h hr hF hn hn4 hkey; go_enter func345, ntmps345; go_wp2_with (go_at_call 326; refine (hlev _).mono ?_; rintro e w' ⟨rfl, rfl⟩); have HO0 : Hid (Ord F w ob (lvD L key 0)) := hid (HO.out.congr fun j _ => by simp [lvD]); go_loopw [5, 13] (fun v5 v13 wr => ∃ k : Nat, k ≤ n ∧ v13 = .int .i64 k ∧ v5 = .bool (decide (0 < k) && hasL L key) ∧ Ord F wr ob (lvD L key k) ∧ Only F w wr) (fun _ v13 _ => n - (intOf v13).toNat)
 case atStart => exact ⟨0, Nat.zero_le _, rfl, by simp, HO0.out, Only.refl _ _⟩
 case round =>
  obtain ⟨k, hkn, rfl, rfl, hord, honly⟩ := hrel; by_cases hlt : k < n
  · obtain ⟨hFob, A, c, hin⟩ := hord
    have c0 := hin.cell k (by omega); have HIN := hid hin; have HON := hid honly; have hobr := hin.lt; have hsz := honly.size; rw [qsj] at c0; have hown := hin.own k (by omega); rw [qsj] at hown; have HOW := hid hown; have hln := hown.len; have hmx := hown.max; have hk4 : (k : Int) < 4 := by omega
    have hll : (atLv L k).length ≤ 100000 := by have := qy2 L k; omega
    clear hin honly hown; go_wp2_with fail; refine (qli (atLv L k) (qhd HR.out k) _ _ key _ (((HOW.out.arr qa3.enc_len).below (by repeat (first | exact Below.refl _ _ | assumption | refine Below.drew ?_ | refine qa1 ?_ _ | refine Below.alloc ?_ (by first | omega | simp <;> omega) _ | refine Below.setCell ?_ (by first | omega | simp <;> omega) _))).more (by first | omega | simp <;> omega)) hln hmx hll).mono ?_; rintro e w1 ⟨rfl, hb1⟩; all_goals
     have bw1 : Below wr.heap.size wr w1 := Below.trans (by repeat (first | exact Below.refl _ _ | assumption | refine Below.drew ?_ | refine qa1 ?_ _ | refine Below.alloc ?_ (by first | omega | simp <;> omega) _ | refine Below.setCell ?_ (by first | omega | simp <;> omega) _)) (hb1.mono (by first | omega | simp <;> omega)); have hz1 := bw1.size; have c1 := (bw1.cell (p := ⟨ob, k, none⟩) hobr).trans c0; have HIN1 := hid (HIN.out.below bw1); have HOW1 := hid (HOW.out.below bw1); have hob1 : ob < w1.heap.size := by omega
     have hkey : hasL (atLv L k) key = hasL L key := qy7 (by rw [← HN.out]; exact hlt); have HKEY := hid hkey; clear hkey c0 hb1; obtain ⟨p, hp⟩ : ∃ p, p = posL (atLv L k) key := ⟨_, rfl⟩; rw [← hp]; have HP := hid hp; clear hp; cases hh : hasL (atLv L k) key with
     | true =>
      have HH := hid hh; have HS := qth (qhd HR.out k) hh; rw [← HP.out] at HS; have hpl := HS.1; have HST := hid HS.2; have HL4 := hid (HIN1.out.lies k (by omega)); have q1' := HIN1.out.frz k; clear HS hh; obtain ⟨b, off, hA, _, hbw⟩ : ∃ b off, A k = some ⟨b, off, none⟩ ∧ 0 ≤ b ∧ b < w1.heap.size := by
       rcases HOW1.out.lt with h0 | h0
       · omega
       · exact h0
      obtain ⟨m, hm⟩ : ∃ m, (atLv L k).length = m + 1 := ⟨(atLv L k).length - 1, by omega⟩; have HM := hid hm; have hpm : p ≤ m := by omega
      have hpl2 : (qd9 (atLv L k) key).length = m := by rw [HST.out, List.length_append, List.length_take, List.length_drop]; omega
      have HPL2 := hid hpl2; rw [hA, hm] at c1; have hOA := HOW1.out; have hrow : qa8 (A k) (c k) = some b := by rw [hA, qa8, if_neg (by omega)]; rfl
      rw [hA] at hOA; have HOA := hid hOA; have HROW := hid hrow; have hw1 : IntKind.i64.wrap ((p : Int) + 1) = (p : Int) + 1 := by rw [IntKind.wrap_i64]; omega
      clear hOA hm hpl2 hrow; go_wp2_with fail; go_region_with (go_at_call 365; refine (qwq (atLv L k) m b off (c k) 0 p _ (by exact HOA.out) HM.out hpm).mono ?_; rintro e w3 ⟨rfl, hown, hgr⟩; have hb3 : w3.heap[ob]? = w1.heap[ob]? := (hgr.block ob (by first | exact hob1 | (simp; omega)) fun hr => ((HOW1.out.row HL4.out ob (by rw [hA]; exact hr.symm)).2 rfl)); have q0 := (qaj (p := ⟨ob, k, none⟩) hb3).trans c1; have q1 := (qbg (p := ⟨ob, k, none⟩) hb3).trans q1'); all_goals
       go_wp2_with fail; go_roundw
       case rel =>
        obtain ⟨r1, r2⟩ := HIN1.out.put hFob (by omega) (fun j hj => HFr.out j (by have := HON.out.size; omega)) (W := w1.drew) (by repeat (first | exact Below.refl _ _ | assumption | refine Below.drew ?_ | refine qa1 ?_ _ | refine Below.alloc ?_ (by first | omega | simp <;> omega) _ | refine Below.setCell ?_ (by first | omega | simp <;> omega) _)) (by rw [hA]; exact hgr) hown (n := m) (by rw [← HST.out]; exact HPL2.out.symm) (.inl ⟨hA.symm, rfl⟩); refine ⟨k + 1, by omega, by go_num, ?_, ?_, (HON.out.trans (Only.of_below bw1)).trans r2⟩
        · rw [← HKEY.out, HH.out]
          simp
        · rw [← HST.out] at r1
          exact r1.congr fun j _ => qou L key k j
       case measure => simp [intOf]; omega
     | false =>
      have HH := hid hh; clear hh; go_wp2_with fail; go_roundw
      case rel =>
       refine ⟨k + 1, by omega, by go_num, ?_, ⟨hFob, A, c, ?_⟩, HON.out.trans (Only.of_below bw1)⟩
       · rw [← HKEY.out, HH.out]
         simp
       · obtain ⟨_, A2, c2, h2⟩ : Ord F w1 ob (lvD L key (k + 1)) := by exact Ord.congr ⟨hFob, A, c, HIN1.out⟩ fun j _ => qk5 HH.out j
         exact ⟨fun i hi => by rw [← qk5 HH.out i]; exact HIN1.out.cell i hi, HIN1.out.frz, fun i hi => by rw [← qk5 HH.out i]; exact HIN1.out.own i hi, HIN1.out.lies, HIN1.out.apart⟩
      case measure => simp [intOf]; omega
  · obtain rfl : k = n := by omega
    have HORD := hid hord; have HON := hid honly; clear hord honly; go_wp2; go_ret; refine ⟨?_, ?_, HON.out⟩
    · have : decide (0 < k) = true := by simp; omega
      simp [this]
    · exact HORD.out.congr fun j _ => by rw [HN.out]; exact qz2 L key j
end
end Go.Proofs.YtecikkjbnkhhkaaGreat
