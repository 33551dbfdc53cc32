/- A part of the walk. -/
import Derived.Test.YtecikkjbnkhhkaaGreatP25
namespace Go.Proofs.YtecikkjbnkhhkaaGreat
open _root_.Go.Proofs.Tryz
set_option maxHeartbeats 8000000
set_option maxRecDepth 1000000
section
open Go.RowKit
def lvS (L : List qa3) (x : qa3) (k : Nat) : Nat → List qa3 := fun j => if j < k then setL (atLv L j) x else atLv L j
theorem qsi (L : List qa3) (x : qa3) (k : Nat) : lvS L x k k = atLv L k := by simp [lvS]
theorem qot (L : List qa3) (x : qa3) (k : Nat) (j : Nat) : upd (lvS L x k) k (setL (atLv L k) x) j = lvS L x (k + 1) j := by
 unfold upd lvS; by_cases h : j = k
 · subst h; simp
 · rw [if_neg h]
   by_cases h2 : j < k
   · rw [if_pos h2, if_pos (by omega)]
   · rw [if_neg h2, if_neg (by omega)]
theorem qz1 {L : List qa3} (h : Rise L) (x : qa3) (j : Nat) : lvS L x (qgn x.key) j = atLv (setL L x) j := by rw [qAm h]; rfl
theorem qe5 {w : World} {b : Nat} {cs : Array Value} {t : TypeId} (h : w.heap[b]? = some (.cells cs t (0, 0))) (j : Nat) : w.cell? ⟨b, j, none⟩ = cs[j]? := cell_of_row w b j _ _ _ h
theorem qvs {F : Nat → Prop} {L : List qa3} {ob : Nat} (x : qa3) (w : World) (h : Ord F w ob (atLv L)) (hF : ∀ j, w.heap.size ≤ j → F j) (hr : Rise L) (hlen : L.length ≤ 50000) (hkey : x.key.size ≤ 1000000) :
 Calls prog 281 #[.pointer (some ⟨ob, 0, none⟩), .agg #[.string x.key, .int .u64 x.id, .int .u64 x.ver, .int .i64 x.line, .int .i64 x.cls]] w fun e w' => e = .returned (.bool (hasL L x.key)) ∧ Ord F w' ob (atLv (setL L x)) ∧ Only F w w' := by
 have hob := h.lt; have HO := hid h; have HR := hid hr; have HFr := hid hF; obtain ⟨n, hn⟩ : ∃ n, n = qgn x.key := ⟨_, rfl⟩; have hn4 := qhk x.key; rw [← hn] at hn4; have hlev : ∀ w, Calls prog 326 #[.string x.key] w fun e w' => e = .returned (.int .i64 (n : Nat)) ∧ w = w' := fun w => by rw [hn]; exact qiw x.key hkey w
 have HN := hid hn; have hn1 := hn4.1; have hn2 := hn4.2; clear h hr hF hn hn4 hkey; go_enter func281, ntmps281; go_wp2_with (go_at_call 326; refine (hlev _).mono ?_; rintro e w' ⟨rfl, rfl⟩); obtain ⟨W0, hW0⟩ : ∃ W0, W0 = w.alloc (.cells #[.string x.key, .int .u64 x.id, .int .u64 x.ver, .int .i64 x.line, .int .i64 x.cls] 85) := ⟨_, rfl⟩; rw [← hW0]; have HW0 := hid hW0; have hz0 : W0.heap.size = w.heap.size + 1 := by rw [hW0]; simp
 have hb0 : Below w.heap.size w W0 := by rw [hW0]; exact (by repeat (first | exact Below.refl _ _ | assumption | refine Below.drew ?_ | refine qa1 ?_ _ | refine Below.alloc ?_ (by first | omega | simp <;> omega) _ | refine Below.setCell ?_ (by first | omega | simp <;> omega) _))
 have hx0 : W0.heap[w.heap.size]? = some (.cells #[.string x.key, .int .u64 x.id, .int .u64 x.ver, .int .i64 x.line, .int .i64 x.cls] 85 (0, 0)) := by rw [hW0]; exact Array.getElem?_push_size
 have HX0 := hid hx0; clear hW0 hx0; have HO0 : Hid (Ord (fun j => F j ∧ j ≠ w.heap.size) W0 ob (lvS L x 0)) := hid ((((HO.out.trim).mono (G := fun j => F j ∧ j ≠ w.heap.size) (fun j hj => ⟨hj.1, by have := hj.2; omega⟩)).below hb0).congr fun j _ => by simp [lvS]); go_loopw [5, 14] (fun v5 v14 wr => ∃ k : Nat, k ≤ n ∧ v14 = .int .i64 k ∧ v5 = .bool (decide (0 < k) && hasL L x.key) ∧ Ord (fun j => F j ∧ j ≠ w.heap.size) wr ob (lvS L x k) ∧ Only (fun j => F j ∧ j ≠ w.heap.size) W0 wr) (fun _ v14 _ => n - (intOf v14).toNat)
 case atStart => exact ⟨0, Nat.zero_le _, rfl, by simp, HO0.out, Only.refl _ _⟩
 case round =>
  obtain ⟨k, hkn, rfl, rfl, hord, honly⟩ := hrel; by_cases hlt : k < n
  · have hxr := (honly.block w.heap.size (by omega) (fun hh => hh.2 rfl)).trans HX0.out
    have x0 := qe5 hxr 0; have x1 := qe5 hxr 1; have x2 := qe5 hxr 2; have x3 := qe5 hxr 3; have x4 := qe5 hxr 4; simp at x0 x1 x2 x3 x4; obtain ⟨hFob, A, c, hin⟩ := hord; have c0 := hin.cell k (by omega); have HIN := hid hin; have HON := hid honly; have hobr := hin.lt; have hsz := honly.size; rw [qsi] at c0; have hown := hin.own k (by omega); rw [qsi] at hown; have HOW := hid hown; have hln := hown.len; have hmx := hown.max; have hk4 : (k : Int) < 4 := by omega
    have hll : (atLv L k).length ≤ 100000 := by have := qy2 L k; omega
    clear hin honly hown hxr; go_wp2_with fail; go_region_with (go_at_call 312; refine (qli (atLv L k) (qhd HR.out k) _ _ x.key _ (((HOW.out.arr qa3.enc_len).below (by repeat (first | exact Below.refl _ _ | assumption | refine Below.drew ?_ | refine qa1 ?_ _ | refine Below.alloc ?_ (by first | omega | simp <;> omega) _ | refine Below.setCell ?_ (by first | omega | simp <;> omega) _))).more (by first | omega | simp <;> omega)) hln hmx hll).mono ?_; rintro e w1 ⟨rfl, hb1⟩); all_goals
     have bw1 : Below wr.heap.size wr w1 := Below.trans (by repeat (first | exact Below.refl _ _ | assumption | refine Below.drew ?_ | refine qa1 ?_ _ | refine Below.alloc ?_ (by first | omega | simp <;> omega) _ | refine Below.setCell ?_ (by first | omega | simp <;> omega) _)) (hb1.mono (by first | omega | simp <;> omega)); have hz1 := bw1.size; have c1 := (bw1.cell (p := ⟨ob, k, none⟩) hobr).trans c0; have hxw : w.heap.size < wr.heap.size := by omega
     have y0 := (bw1.cell (p := ⟨w.heap.size, 0, none⟩) hxw).trans x0; have y1 := (bw1.cell (p := ⟨w.heap.size, 1, none⟩) hxw).trans x1; have y2 := (bw1.cell (p := ⟨w.heap.size, 2, none⟩) hxw).trans x2; have y3 := (bw1.cell (p := ⟨w.heap.size, 3, none⟩) hxw).trans x3; have y4 := (bw1.cell (p := ⟨w.heap.size, 4, none⟩) hxw).trans x4; have HIN1 := hid (HIN.out.below bw1); have HOW1 := hid (HOW.out.below bw1); have hob1 : ob < w1.heap.size := by omega
     have hkey : hasL (atLv L k) x.key = hasL L x.key := qy7 (by rw [← HN.out]; exact hlt); have HKEY := hid hkey; clear hkey c0 x0 x1 x2 x3 x4 hb1; obtain ⟨p, hp⟩ : ∃ p, p = posL (atLv L k) x.key := ⟨_, rfl⟩; rw [← hp]; have HP := hid hp; clear hp; cases hh : hasL (atLv L k) x.key with
     | true =>
      have HH := hid hh; have HS := qvn (qhd HR.out k) hh; rw [← HP.out] at HS; have hpl := HS.1; have hpl' : (p : Int) < ((atLv L k).length : Int) := by omega
      have HST := hid HS.2; clear HS hh; obtain ⟨b, off, hA, hB, k0, k1, k2, k3, k4⟩ := (HOW1.out.arr qa3.enc_len).link hpl; have hfz := HOW1.out.frozen hA (by omega); have f0 := hfz (off + p * 5); have f1 := hfz (off + p * 5 + 1); have f2 := hfz (off + p * 5 + 2); have f3 := hfz (off + p * 5 + 3); have f4 := hfz (off + p * 5 + 4); rw [hA] at c1; clear hfz; have hput : Ord (fun j => F j ∧ j ≠ w.heap.size) (w1.setCells b (off + p * 5) x.enc).drew ob (lvS L x (k + 1)) ∧ Only (fun j => F j ∧ j ≠ w.heap.size) w1 (w1.setCells b (off + p * 5) x.enc).drew := by
       have g := qb4 b x.enc (off + p * 5) w1; have hck : ¬ (c k = 0) := by omega
       have ho2 : Own qa3.enc 85 5 (w1.setCells b (off + p * 5) x.enc).drew 0 (A k) (c k) (setL (atLv L k) x) := by
        have ho := HOW1.out; rw [hA] at ho ⊢; rw [HST.out]; exact (ho.setLink hpl x).drew
       obtain ⟨r1, r2⟩ := HIN1.out.put2 hFob (by omega) (w3 := (w1.setCells b (off + p * 5) x.enc).drew) (by rw [hA, qa8, if_neg hck]; exact ⟨g.os, g.tape, g.output, g.size, g.block⟩) ho2 (by rw [qsi, HST.out, List.length_set]); exact ⟨r1.congr fun j _ => qot L x k j, r2⟩
      have HPUT := hid hput; clear hput; go_wp2_with fail; go_region; all_goals
       go_wp2_with fail; go_roundw
       case rel =>
        refine ⟨k + 1, by omega, by go_num, ?_, HPUT.out.1, (HON.out.trans (Only.of_below bw1)).trans HPUT.out.2⟩; rw [← HKEY.out, HH.out]; simp
       case measure => simp [intOf]; omega
     | false =>
      have HH := hid hh; have HS := qvl (qhd HR.out k) hh; rw [← HP.out] at HS; have hpl := HS.1; have HST := hid HS.2; have HL4 := hid (HIN1.out.lies k (by omega)); have q1' := HIN1.out.frz k; clear HS hh; go_wp2_with fail; go_region_with (go_at_call 327; refine (qnj (atLv L k) (A k) (c k) 0 w1.heap.size p x _ ?_ ?_ (Nat.zero_le _) hll hpl ?_).mono ?_; (exact HOW1.out.below (by repeat (first | exact Below.refl _ _ | assumption | refine Below.drew ?_ | refine qa1 ?_ _ | refine Below.alloc ?_ (by first | omega | simp <;> omega) _ | refine Below.setCell ?_ (by first | omega | simp <;> omega) _))); (exact Array.getElem?_push_size); (rcases HOW1.out.lt with h0 | ⟨b, off, hA, _, hlt⟩; exact .inl h0; exact .inr fun b' o' hA' hbb => by rw [hA] at hA'; cases hA'; omega); rintro e w3 ⟨A', c', rfl, hown, hgr, hloc⟩; have hb3 : w3.heap[ob]? = w1.heap[ob]? := ((hgr.block ob (by simp; omega) fun hr => ((HOW1.out.row HL4.out ob hr.symm).2 rfl)).trans (Below.heap_alloc _ _ _ (show ob < w1.heap.size by omega))); have q0 := (qaj (p := ⟨ob, k, none⟩) hb3).trans c1; have q1 := (qbg (p := ⟨ob, k, none⟩) hb3).trans q1'); all_goals
       go_wp2_with fail; go_roundw
       case rel =>
        obtain ⟨r1, r2⟩ := HIN1.out.put hFob (by omega) (fun j hj => ⟨HFr.out j (by omega), by omega⟩) (by repeat (first | exact Below.refl _ _ | assumption | refine Below.drew ?_ | refine qa1 ?_ _ | refine Below.alloc ?_ (by first | omega | simp <;> omega) _ | refine Below.setCell ?_ (by first | omega | simp <;> omega) _)) hgr hown (qfx _ _ _ hpl).symm hloc; refine ⟨k + 1, by omega, by go_num, ?_, ?_, (HON.out.trans (Only.of_below bw1)).trans r2⟩
        · rw [← HKEY.out, HH.out]
          simp
        · rw [← HST.out] at r1
          exact r1.congr fun j _ => qot L x k j
       case measure => simp [intOf]; omega
  · obtain rfl : k = n := by omega
    have HORD := hid hord; have HON := hid honly; clear hord honly; go_wp2; go_ret; refine ⟨?_, ?_, (Only.of_below hb0).trans (HON.out.mono fun j hj => hj.1)⟩
    · have : decide (0 < k) = true := by simp; omega
      simp [this]
    · have := HORD.out.mono (G := F) (fun j hj => hj.1)
      exact this.congr fun j _ => by rw [HN.out]; exact qz1 HR.out x j
end
section
open Go.RowKit
section
variable {g : Own8} {w : World} {a : Nat} {P : qag} {M : qa4}
def ATs (g : Own8) (w : World) (a : Nat) (P : qag) (M' : qa4) (v : Value) (e : Ending) (w' : World) : Prop := e = .returned v ∧ ATo g w w' a P M'
theorem qxe (h : qa6 g w a P M) (hv : M.ver ≤ 1000000) : Calls prog 265 #[.pointer (some ⟨a, 9, none⟩), .int .u64 1] w (ATs g w a P { M with ver := M.ver + 1 } (.int .u64 ((M.ver + 1 : Nat) : Int))) := by
 have e1 : IntKind.u64.wrap ((M.ver : Int) + 1) = ((M.ver + 1 : Nat) : Int) := by rw [IntKind.wrap_u64]; omega
 refine (qpb a 9 (M.ver : Int) 1 w h.cells.2.2.2.2.2.2.2.2.2.1 (frozen_of_row w a 9 _ _ h.box.1) (qa0 h.box.1)).mono ?_; rintro e w' ⟨rfl, rfl⟩; rw [e1]; exact ⟨rfl, h.setNum M.id (M.ver + 1) (qay h.box.1 9 _) ((Only.refl _ w).setCell _ _ (.inl h.box.2))⟩
theorem qzu (h : qa6 g w a P M) (hv : M.id ≤ 1000000) : Calls prog 265 #[.pointer (some ⟨a, 8, none⟩), .int .u64 1] w (ATs g w a P { M with id := M.id + 1 } (.int .u64 ((M.id + 1 : Nat) : Int))) := by
 have e1 : IntKind.u64.wrap ((M.id : Int) + 1) = ((M.id + 1 : Nat) : Int) := by rw [IntKind.wrap_u64]; omega
 refine (qpb a 8 (M.id : Int) 1 w h.cells.2.2.2.2.2.2.2.2.1 (frozen_of_row w a 8 _ _ h.box.1) (qa0 h.box.1)).mono ?_; rintro e w' ⟨rfl, rfl⟩; rw [e1]; exact ⟨rfl, h.setNum (M.id + 1) M.ver (qay h.box.1 8 _) ((Only.refl _ w).setCell _ _ (.inl h.box.2))⟩
theorem qu6 (h : qa6 g w a P M) (t i : Nat) (ht : t < M.owed.length) (hi : i < 258) : Calls prog 269 #[.pointer (some ⟨P.cp, 0, none⟩), .int .i64 (t : Int), .int .i64 (i : Int)] w fun e w' => e = .returned (.int .i64 0) ∧ ∃ owed', owed'.length = M.owed.length ∧ ATo g w w' a P { M with owed := owed', noted := M.noted.set i true } := by
 have hc := h.clk; refine (qvw w 0 P.cp P.oc M.now M.dur M.clo M.owed M.noted M.left M.step hc.1 t i ht hi).mono ?_; rintro e w' ⟨rfl, ⟨owed', hl, hk⟩, ho, hb⟩; exact ⟨rfl, owed', hl, h.setClk (qcx.of2 hb (fun j _ h1 h2 => ho j h1 h2) hc.2.1 hc.2.2) hk⟩
theorem qbk.trim (h : qa6 g w a P M) : qbk (fun j => g j = 7 ∧ j < w.heap.size) w P.tb P.mb M.T :=
 ⟨h.tab.box, h.tab.map, h.tab.inj, h.tab.bkt, ⟨⟨h.tab.own.1, h.tab.lt⟩, fun i hi => ⟨h.tab.own.2 i hi, (h.tab.map i hi).lt⟩⟩⟩
theorem qo6 (h : qa6 g w a P M) (x : qa3) (hk : x.key.size ≤ 1000000) : Calls prog 280 #[.pointer (some ⟨P.tb, 0, none⟩), x.val] w fun e w' => (∃ v, e = .returned v) ∧ ATo g w w' a P { M with T := updB M.T (bucket x.key) (setM (M.T (bucket x.key)) x) } := by
 refine (qpr (qbk.trim h) x hk).mono ?_; rintro e w' ⟨rfl, ht, ho⟩; exact ⟨⟨_, rfl⟩, h.setTab (ho.mono fun j hj => .inl (by rw [hj]; exact h.tab.own.2 _ (qb6 _))) ht⟩
theorem qmc (h : qa6 g w a P M) (key : ByteArray) (hk : key.size ≤ 1000000) : Calls prog 344 #[.pointer (some ⟨P.tb, 0, none⟩), .string key] w fun e w' => (∃ v, e = .returned v) ∧ ATo g w w' a P { M with T := updB M.T (bucket key) (delM (M.T (bucket key)) key) } := by
 refine (qmt (qbk.trim h) key hk).mono ?_; rintro e w' ⟨rfl, ht, ho⟩; exact ⟨⟨_, rfl⟩, h.setTab (ho.mono fun j hj => .inl (by rw [hj]; exact h.tab.own.2 _ (qb6 _))) ht⟩
theorem qo7 (h : qa6 g w a P M) (x : qa3) (hr : Rise M.O) (hl : M.O.length ≤ 50000) (hk : x.key.size ≤ 1000000) : Calls prog 281 #[.pointer (some ⟨P.ob, 0, none⟩), .agg #[.string x.key, .int .u64 x.id, .int .u64 x.ver, .int .i64 x.line, .int .i64 x.cls]] w fun e w' => (∃ v, e = .returned v) ∧ ATo g w w' a P { M with O := setL M.O x } := by
 refine (qvs (F := fun j => g j = 8 ∨ w.heap.size ≤ j) x w (Ord.mono h.ord fun _ hj => .inl hj) (fun j hj => .inr hj) hr hl hk).mono ?_; rintro e w' ⟨rfl, ho, hn⟩; exact ⟨⟨_, rfl⟩, h.setOrd hn ho⟩
theorem qmd (h : qa6 g w a P M) (key : ByteArray) (hr : Rise M.O) (hl : M.O.length ≤ 50000) (hk : key.size ≤ 1000000) : Calls prog 345 #[.pointer (some ⟨P.ob, 0, none⟩), .string key] w fun e w' => (∃ v, e = .returned v) ∧ ATo g w w' a P { M with O := qd9 M.O key } := by
 refine (qs7 (F := fun j => g j = 8 ∨ w.heap.size ≤ j) key w (Ord.mono h.ord fun _ hj => .inl hj) (fun j hj => .inr hj) hr hl hk).mono ?_; rintro e w' ⟨rfl, ho, hn⟩; exact ⟨⟨_, rfl⟩, h.setOrd hn ho⟩
theorem qhc {i : Nat} {w' : World} {A A' : Option Addr} {c c' : Nat} (hr : qc8 g i A c) (hl : ∀ b, qa8 A c = some b → b < w.heap.size) (hl' : ∀ b, qa8 A' c' = some b → b < w'.heap.size) (hloc : A' = A ∧ c' = c ∨ ∃ y off, A' = some ⟨y, off, none⟩ ∧ w.heap.size ≤ y) : qc8 (mark g w w' i) i A' c' := by
 intro b hb; rcases hloc with ⟨rfl, rfl⟩ | ⟨y, off, rfl, hy⟩
 · exact (qat (hl b hb)).trans (hr b hb)
 · have h2 := hl' b hb
   rw [qa8] at hb; split at hb
   · cases hb
   · cases hb; exact qos hy h2
theorem qu7 (h : qa6 g w a P M) {w' : World} {A : Option Addr} {c qn : Nat} {Q : List qa3} (hq : qmi w 0 P.lp A c M.Q) (hr : qc8 g 9 A c) (ht : qv1 0 P.lp A c Q w w') (hg : Ring w' P.lp qn) : ATo g w w' a P { M with Q := Q, qn := qn } := by
 obtain ⟨⟨A', c', hq', hloc⟩, hb, hk, _⟩ := ht; have hl' : ∀ b, qa8 A' c' = some b → b < w'.heap.size := by
  obtain ⟨L, at', n, hf, _⟩ := hq'; exact qcg hf.rows
 have hl : ∀ b, qa8 A c = some b → b < w.heap.size := by
  obtain ⟨L, at', n, hf, _⟩ := hq; exact qcg hf.rows
 obtain ⟨_, _, _, h9, _⟩ := h.line; exact h.setLine ⟨hb.os, hb.tape, hb.output, hb.size, fun j hj hn => hk j hj (fun e => hn (.inl (e ▸ h9))) (fun e => hn (.inl (hr j e.symm)))⟩ hq' (qhc hr hl hl' hloc) hg
theorem qu5 (h : qa6 g w a P M) (x : qa3) (hn : M.qn ≤ 90000) (_hq : M.Q.length ≤ 90000) : Calls prog 284 #[.pointer (some ⟨P.lp, 0, none⟩), x.val] w fun e w' => e = .returned (.tuple #[]) ∧ ATo g w w' a P { M with Q := M.Q ++ [x], qn := max M.qn (M.Q.length + 1) } := by
 obtain ⟨A, c, h1, h2, h3, h4⟩ := h.line; refine (qll w 0 P.lp A c M.Q x h1 (Nat.zero_le _) fun L at' n hf => by have := h4.len hf.box; omega).mono ?_; rintro e w' ⟨rfl, ht⟩; exact ⟨rfl, qu7 h h1 h3 ht (ht.ring _ (fun A' n' c' hc => Nat.le_trans (h4 A' n' c' hc) (Nat.le_max_left _ _)) (by rw [List.length_append]; exact Nat.le_max_right _ _))⟩
theorem qxh (h : qa6 g w a P M) (hn : M.qn ≤ 90000) (h0 : ¬ M.Q = []) : Calls prog 346 #[.pointer (some ⟨P.lp, 0, none⟩)] w fun e w' => (∃ v, e = .returned v) ∧ ATo g w w' a P { M with Q := M.Q.tail } := by
 obtain ⟨A, c, h1, h2, h3, h4⟩ := h.line; refine (qnf w 0 P.lp A c M.Q h1 h0 (Nat.zero_le _) fun L at' n hf => by have := h4.len hf.box; omega).mono ?_; rintro e w' ⟨x, Q', hq, rfl, ht⟩; have hlen : M.Q.length ≤ M.qn := by
  obtain ⟨L, at', n, hf, hQ⟩ := h1; have := h4.len hf.box; have := hf.fit.1; rw [hQ, qbf hf.fit.1]; omega
 have e1 : M.Q.tail = Q' := by rw [hq]; rfl
 rw [e1]; exact ⟨⟨_, rfl⟩, qu7 h h1 h3 ht (ht.ring _ h4 (by rw [hq] at hlen; simp at hlen; omega))⟩
theorem qo8 (h : qa6 g w a P M) (x : EntC) : Calls prog 271 #[.pointer (some ⟨P.bp, 0, none⟩), x.val] w fun e w' => (∃ v, e = .returned v) ∧ ATo g w w' a P { M with bag := putE M.bag x } := by
 obtain ⟨A, c, h1, h2, h3⟩ := h.bag; have hap : ∀ o, A = some ⟨P.bp, o, none⟩ → c = 0 := fun o hA => by
  by_cases hc : c = 0
  · exact hc
  · exact absurd (show some P.bp = qa8 A c by rw [qa8, if_neg hc, hA]; rfl) (h1.rows.notBox h1.box (by decide))
 refine (qr3 w 0 P.bp A c M.bag x h1 hap).mono ?_; rintro e w' ⟨code, A', c', rfl, hb, hbl, hk, hloc⟩; refine ⟨⟨_, rfl⟩, h.setBag ⟨hbl.os, hbl.tape, hbl.output, hbl.size, fun j hj hn => hk j hj (fun e => hn (.inl (e ▸ h2))) fun o hA => ?_⟩ hb (qhc h3 (qcg h1.rows) (qcg hb.rows) (hloc.imp id fun ⟨y, h1, h2⟩ => ⟨y, 0, h1, h2⟩))⟩; by_cases hc : c = 0
 · exact hc
 · exact absurd (h3 j (by rw [qa8, if_neg hc, hA]; rfl)) (fun e => hn (.inl e))
theorem qa6.setEff (h : qa6 g w a P M) {w5 : World} {A' : Option Addr} {c' : Nat} {E' : List EffC} (hg : w.grownBy w5 (qa8 M.eA M.ec)) (hown : Own EffC.enc 70 7 w5 0 A' c' E') (hloc : A' = M.eA ∧ c' = M.ec ∨ ∃ y off, A' = some ⟨y, off, none⟩ ∧ w.heap.size ≤ y) :
 ATo g w (w5.setCell ⟨a, 10, none⟩ (.slice A' E'.length c')) a P { M with E := E', eA := A', ec := c' } := by
 have ho5 : qcx g 10 w w5 := Only.grown hg fun j hj => .inl (h.eff.2 j hj)
 have hr5 : qc8 (mark g w w5 10) 10 A' c' := qhc h.eff.2 (qcg h.eff.1) (qcg hown) hloc; have bx := h.box.keep ho5 (by decide); have g1 : mark g w w5 10 a = 1 := bx.2; have ho6 : qcx (mark g w w5 10) 1 w5 (w5.setCell ⟨a, 10, none⟩ (.slice A' E'.length c')) := (Only.refl _ w5).setCell _ _ (.inl g1); have hne : some a ≠ qa8 A' c' := hown.notBox bx.1 (by decide); have hf5 := h.far.mark ho5.size 10; refine ⟨_, ⟨hf5.mark ho6.size 1, ⟨qay bx.1 10 _, (qat (qa0 bx.1)).trans g1⟩, ⟨?_, ?_⟩, (h.dev.keep ho5 (by decide) (by decide)).keep ho6 (by decide) (by decide), (h.pool.keep ho5 (by decide)).keep ho6 (by decide), (h.rd.keep ho5 (by decide)).keep ho6 (by decide), (h.clk.keep ho5 (by decide)).keep ho6 (by decide), (h.bag.keep ho5 (by decide)).keep ho6 (by decide), (h.tab.keep ho5 (by decide)).keep ho6 (by decide), (h.ord.keep ho5 (by decide)).keep ho6 (by decide), (h.line.keep ho5 (by decide)).keep ho6 (by decide)⟩, (ho5.ext (by decide)).trans (ho6.ext (by decide))⟩
 · refine hown.keep2 ?_
   by_cases hc : c' = 0
   · exact .inl hc
   · exact .inr fun b off hA _ => Below.heap_setCell _ _ _ _ fun e => hne (by rw [qa8, if_neg hc, hA]; exact congrArg some e.symm)
 · exact fun b hb => (qat (qcg hown b hb)).trans (hr5 b hb)
theorem qu4 (h : qa6 g w a P M) : Calls prog 272 #[.pointer (some ⟨P.rp, 0, none⟩)] w fun e w' => e = .returned (.int .u64 (M.rnow : Int)) ∧ w' = w := qjv w 0 P.rp P.rc M.rnow M.H h.rd.1
end
end
section
open Go.RowKit
def NobR (g : Own8) (w : World) (b : Nat) (t : TypeId) (cs : List Value) : Prop := w.heap[b]? = some (.cells cs.toArray t (0, 0)) ∧ g b = 0
theorem NobR.lt {g : Own8} {w : World} {b : Nat} {t : TypeId} {cs : List Value} (h : NobR g w b t cs) : b < w.heap.size := qa0 h.1
theorem NobR.ext {g g' : Own8} {w w' : World} {b : Nat} {t : TypeId} {cs : List Value} (h : NobR g w b t cs) (e : Ext g g' w w') : NobR g' w' b t cs := ⟨(e.nobody h.lt h.2).trans h.1, (e.old b h.lt).trans h.2⟩
theorem NobR.below {g : Own8} {w w' : World} {b : Nat} {t : TypeId} {cs : List Value} (h : NobR g w b t cs) (e : Below w.heap.size w w') : NobR g w' b t cs := h.ext (Ext.below e)
theorem ATo.below {g : Own8} {w w1 w' : World} {a : Nat} {P : qag} {M' : qa4} (hb : Below w.heap.size w w1) (h : ATo g w1 w' a P M') : ATo g w w' a P M' := ATo.trans (Ext.below hb) h
theorem NobR.set {g : Own8} {w : World} {b : Nat} {t : TypeId} {cs : List Value} (h : NobR g w b t cs) (k : Nat) (v : Value) {cs' : List Value} (he : cs.set k v = cs') : NobR g (w.setCell ⟨b, k, none⟩ v) b t cs' := ⟨by rw [← he]; exact qay h.1 k v, h.2⟩
theorem NobR.other {g : Own8} {w : World} {b c : Nat} {t : TypeId} {cs : List Value} (h : NobR g w b t cs) (hne : b ≠ c) (k : Nat) (v : Value) : NobR g (w.setCell ⟨c, k, none⟩ v) b t cs := ⟨(Below.heap_setCell _ _ _ _ hne).trans h.1, h.2⟩
theorem Ext.setNew {g g' : Own8} {w w' : World} (h : Ext g g' w w') {b : Nat} (hb : w.heap.size ≤ b) (o : Nat) (v : Value) : Ext g g' w (w'.setCell ⟨b, o, none⟩ v) :=
 ⟨h.old, ⟨h.only.os, h.only.tape, h.only.output, by rw [World.size_setCell]; exact h.only.size, fun j hj hn => (Below.heap_setCell _ _ _ _ (by show j ≠ b; omega)).trans (h.only.block j hj hn)⟩⟩
theorem qr8 {w : World} {vb : Nat} {x : EffC} (hv : w.heap[vb]? = some (.cells x.enc.toArray 70 (0, 0))) : Arr EffC.enc 7 w w.heap.size (some ⟨vb, 0, none⟩) [x] := by
 refine Arr.of_cells EffC.enc_len ?_ fun j u hu => ?_
 · exact qa0 hv
 · rw [Nat.zero_add, cell_of_row w vb j _ _ _ hv, List.getElem?_toArray]
   simpa using hu
def qdk (x : ChgC) : Bool := x.kind == 4 || (x.kind == 2 && !x.had)
def chId (M : qa4) (x : ChgC) : Nat := if qdk x = true then M.id + 1 else x.old.id
def qkj (M : qa4) (x : ChgC) : Nat := if qdk x = true then M.id + 1 else M.id
def qda (M : qa4) (x : ChgC) (e : Nat) : BlkC := qca x (chId M x) (M.ver + 1) e
def qcj (M : qa4) (x : ChgC) (e : Nat) : qa3 := ⟨(qda M x e).key, chId M x, M.ver + 1, x.line, (qda M x e).cls⟩
def qnc (l : List Bool) (q : Nat) : Nat → List Bool
 | 0 => l
 | n + 1 => (qnc l q n).set (q + n) true
def chT (M : qa4) (x : ChgC) (e : Nat) : Nat → List qa3 :=
 if x.kind = 2 then updB M.T (bucket (qcj M x e).key) (setM (M.T (bucket (qcj M x e).key)) (qcj M x e)) else if x.kind = 3 then updB M.T (bucket x.key) (delM (M.T (bucket x.key)) x.key) else M.T
def chO (M : qa4) (x : ChgC) (e : Nat) : List qa3 := if x.kind = 2 then setL M.O (qcj M x e) else if x.kind = 3 then qd9 M.O x.key else M.O
def chQ (M : qa4) (x : ChgC) (e : Nat) : List qa3 := if x.kind = 4 then M.Q ++ [qcj M x e] else if x.kind = 5 then M.Q.tail else M.Q
def chQn (M : qa4) (x : ChgC) : Nat := if x.kind = 4 then max M.qn (M.Q.length + 1) else M.qn
def qdx (x : ChgC) : Int := if x.kind = 3 ∨ x.kind = 5 then x.line else -1
def qqy (M : qa4) (x : ChgC) (e : Nat) : List EntC := if (x.had && (x.kind != 4)) = true then putE M.bag ⟨x.old.line, x.old.cls, M.rnow, e, qdx x⟩ else M.bag
def qel (M : qa4) (grp : Nat) : Nat := if grp = 0 then M.ver + 1 else grp
def qx0 (M : qa4) (x : ChgC) (e grp : Nat) : EffC := ⟨if x.kind = 2 then 1 else if x.kind = 3 then 2 else if x.kind = 4 then 3 else 4, if x.kind = 2 ∨ x.kind = 3 then x.key else ByteArray.empty, (qda M x e).val, chId M x, M.ver + 1, e, (qel M grp : Nat)⟩
def chD (M : qa4) (x : ChgC) (e n : Nat) : List qab := if h : n < M.D.length then M.D.set n (M.D[n].over 0 ((encB (qda M x e)).take 64)) else M.D
def chM (M : qa4) (x : ChgC) (e grp n : Nat) (owed' : List Int) (eA : Option Addr) (ec : Nat) : qa4 :=
 { M with D := chD M x e n, owed := owed', noted := qnc M.noted n (qa9 (qda M x e).cls), bag := qqy M x e, T := chT M x e, O := chO M x e, Q := chQ M x e, qn := chQn M x, id := qkj M x, ver := M.ver + 1, E := M.E ++ [qx0 M x e grp], eA := eA, ec := ec }
structure qml (M : qa4) (t e n : Nat) (x : ChgC) : Prop where
 ht : t < M.owed.length
 line : x.line = (n : Int)
 hn : n < M.D.length
 span : n + qa9 (qda M x e).cls ≤ M.D.length
 may : mayB (qda M x e) = true
 kind : qbw x = true
 key : x.key.size ≤ 1000000
 few : Few M 50000
 rise : Rise M.O
 id : M.id ≤ 1000000
 ver : M.ver ≤ 1000000
 pop : x.kind = 5 → ¬ M.Q = []
def right : Code → Code
 | .seq _ b => b
 | c => c
noncomputable def chB : Code := right (right (right (right (right (right (right (right (right (Tryz.f309.body.getD .skip)))))))))
noncomputable def chC : Code := right (right (right (right chB)))
section
variable {g : Own8} {w : World} {a : Nat} {P : qag} {M : qa4}
def qod (a : Nat) (P : qag) (M : qa4) (x : ChgC) (e grp n : Nat) (g : Own8) (w : World) (r : Ending) (w' : World) : Prop := r = .returned (.int .u64 ((M.ver + 1 : Nat) : Int)) ∧ ∃ owed' eA ec, owed'.length = M.owed.length ∧ ATo g w w' a P (chM M x e grp n owed' eA ec)
structure qBg (a : Nat) (P : qag) (M : qa4) (t e grp n : Nat) (x : ChgC) (ver id gr vb yb : Nat) (y : BlkC) (owed' : List Int) (g : Own8) (w : World) (g10 : Own8) (w10 : World) (M10 : qa4) : Prop where
 pre : qml M t e n x
 hg : grp ≤ 1000000
 hver : ver = M.ver + 1
 hid : id = chId M x
 hgr : gr = qel M grp
 hy : y = qda M x e
 how : owed'.length = M.owed.length
 hM : M10 = { M with id := qkj M x, ver := M.ver + 1, D := chD M x e n, owed := owed', noted := qnc M.noted n (qa9 (qda M x e).cls) }
 ar : qa6 g10 w10 a P M10
 xr : NobR g10 w10 vb 376 x.enc
 yr : NobR g10 w10 yb 203 y.enc
 ext : Ext g g10 w w10
structure qBh (a : Nat) (P : qag) (M : qa4) (t e grp n : Nat) (x : ChgC) (ver vb kb : Nat) (an : Int) (f1 : EffC) (owed' : List Int) (g : Own8) (w : World) (g16 : Own8) (w16 : World) (M14 : qa4) : Prop where
 pre : qml M t e n x
 hver : ver = M.ver + 1
 how : owed'.length = M.owed.length
 han : an = qdx x
 hf : f1 = qx0 M x e grp
 hM : M14 = { M with id := qkj M x, ver := M.ver + 1, D := chD M x e n, owed := owed', noted := qnc M.noted n (qa9 (qda M x e).cls), T := chT M x e, O := chO M x e, Q := chQ M x e, qn := chQn M x }
 ar : qa6 g16 w16 a P M14
 xr : NobR g16 w16 vb 376 x.enc
 fr : NobR g16 w16 (kb + 1) 70 f1.enc
 ext : Ext g g16 w w16
theorem qwx {t e grp n ver gr vb kb : Nat} {an : Int} {x : ChgC} {f1 : EffC} {owed' : List Int} {g16 : Own8} {w16 : World} {M14 : qa4} {u5 u6 u7 u9 u12 u13 u14 u15 u16 u17 u20 u21 u22 u23 u24 u25 u26 u27 u28 u29 u30 u31 u32 u33 u34 u35 u36 u37 u38 u39 u40 u41 u42 u43 u44 u45 u46 u47 u48 u49 u50 u51 u52 u53 u54 u55 u56 u57 u58 u59 u60 u61 u62 u63 u64 u65 u66 u67 u68 u69 u70 u71 u72 u73 u74 u75 u76 u77 u78 u79 u80 u81 u82 u83 u84 u85 u86 u87 u88 u89 u90 u91 u92 u93 u94 u95 u96 u97 u98 u99 u100 u101 u102 u103 u104 u105 u106 u107 u108 u109 u110 u111 u112 u113 u114 u115 u116 u117 u118 u119 u120 u121 u122 u123 u124 u125 u126 u127 u128 u129 u130 u131 u132 u133 u134 u135 u136 u137 u138 u139 u140 u141 u142 u143 u144 u145 u146 u147 u148 u149 u150 u151 u152 u153 u154 u155 u156 u157 u158 u159 u160 u161 u162 u163 u164 u165 u166 u167 u168 u169 u170 u171 u172 u173 u174 u175 u176 u177 u178 u179 u180 u181 u182 u183 u184 u185 u186 u187 u188 u189 u190 u191 u192 u193 u194 : Value} (h : qBh a P M t e grp n x ver vb kb an f1 owed' g w g16 w16 M14) :
 Code.wp prog chC (bodyPost prog Tryz.f309 (qod a P M x e grp n g w)) ⟨((Value.pointer (some ⟨a, 0, none⟩)) :: (Value.int .i64 (t : Int)) :: (Value.int .u64 (e : Int)) :: x.v :: (Value.int .u64 (gr : Int)) :: u5 :: u6 :: u7 :: (Value.pointer (some ⟨vb, 0, none⟩)) :: u9 :: (Value.int .u64 0) :: (Value.int .u64 (ver : Int)) :: u12 :: u13 :: u14 :: u15 :: u16 :: u17 :: (Value.pointer (some ⟨kb + 1, 0, none⟩)) :: (Value.int .i64 an) :: u20 :: u21 :: u22 :: u23 :: u24 :: u25 :: u26 :: u27 :: u28 :: u29 :: u30 :: u31 :: u32 :: u33 :: u34 :: u35 :: u36 :: u37 :: u38 :: u39 :: u40 :: u41 :: u42 :: u43 :: u44 :: u45 :: u46 :: u47 :: u48 :: u49 :: u50 :: u51 :: u52 :: u53 :: u54 :: u55 :: u56 :: u57 :: u58 :: u59 :: u60 :: u61 :: u62 :: u63 :: u64 :: u65 :: u66 :: u67 :: u68 :: u69 :: u70 :: u71 :: u72 :: u73 :: u74 :: u75 :: u76 :: u77 :: u78 :: u79 :: u80 :: u81 :: u82 :: u83 :: u84 :: u85 :: u86 :: u87 :: u88 :: u89 :: u90 :: u91 :: u92 :: u93 :: u94 :: u95 :: u96 :: u97 :: u98 :: u99 :: u100 :: u101 :: u102 :: u103 :: u104 :: u105 :: u106 :: u107 :: u108 :: u109 :: u110 :: u111 :: u112 :: u113 :: u114 :: u115 :: u116 :: u117 :: u118 :: u119 :: u120 :: u121 :: u122 :: u123 :: u124 :: u125 :: u126 :: u127 :: u128 :: u129 :: u130 :: u131 :: u132 :: u133 :: u134 :: u135 :: u136 :: u137 :: u138 :: u139 :: u140 :: u141 :: u142 :: u143 :: u144 :: u145 :: u146 :: u147 :: u148 :: u149 :: u150 :: u151 :: u152 :: u153 :: u154 :: u155 :: u156 :: u157 :: u158 :: u159 :: u160 :: u161 :: u162 :: u163 :: u164 :: u165 :: u166 :: u167 :: u168 :: u169 :: u170 :: u171 :: u172 :: u173 :: u174 :: u175 :: u176 :: u177 :: u178 :: u179 :: u180 :: u181 :: u182 :: u183 :: u184 :: u185 :: u186 :: u187 :: u188 :: u189 :: u190 :: u191 :: u192 :: u193 :: u194 :: []).toArray, []⟩ w16 := by
 have HP := hid h.pre; have HVER := hid h.hver; have HOLF := hid h.how; have HAN := hid h.han; have HF1 := hid h.hf; have HM14 := hid h.hM; have HA16 := hid h.ar; have HN16 := hid h.xr; have HF16 := hid h.fr; have HE16 := hid h.ext; have HB14 := hid (show M14.bag = M.bag by rw [h.hM]); have HR14 := hid (show M14.rnow = M.rnow by rw [h.hM]); have hnD := h.pre.hn; obtain ⟨M17, hM17⟩ : ∃ M17 : qa4, M17 = { M14 with bag := qqy M x e } := ⟨_, rfl⟩; have HM17 := hid hM17; have HEL14 := hid (show M17.E = M.E ∧ M17.eA = M.eA ∧ M17.ec = M.ec by rw [hM17, h.hM]; exact ⟨rfl, rfl, rfl⟩); clear h hM17; have hXV := x.v_eq; rw [hXV]; clear hXV; obtain ⟨c0, c1, c2, c3, c4, c5, c6, c7, c8, c9, cA⟩ := ChgC.cells HN16.out.1; have hl0 := HN16.out.lt; conv => arg 2; whnf
 go_upto_region 33 with fail; go_cut [164] (fun v164 wx => v164 = .bool (x.had && (x.kind != 4)) ∧ wx = w16)
 case first =>
  rcases Bool.eq_false_or_eq_true x.had with hh | hh
  · rw [hh] at c3
    have HH := hid hh; clear hh; go_wp2_with fail; go_meet; exact ⟨by rw [HH.out]; rfl, rfl⟩
  · rw [hh] at c3
    have HH := hid hh; clear hh; go_wp2_with fail; go_meet; exact ⟨by rw [HH.out]; rfl, rfl⟩
 obtain ⟨rfl, hwc⟩ := hcut; rw [hwc]; clear hwc; go_upto_if 164 with fail; go_cut [] (fun wx => ∃ g4, qa6 g4 wx a P M17 ∧ Ext g g4 w wx ∧ NobR g4 wx (kb + 1) 70 f1.enc)
 case first =>
  cases hcn : (x.had && (x.kind != 4)) with
  | false =>
   have HB := hid (show M17 = M14 by rw [HM17.out, qqy, if_neg (by rw [hcn]; decide), ← HB14.out]); clear hcn; go_wp2_with fail; go_meet; exact ⟨g16, by rw [HB.out]; exact HA16.out, HE16.out, HF16.out⟩
  | true =>
   have HB := hid (show M17 = { M14 with bag := putE M14.bag ⟨x.old.line, x.old.cls, M14.rnow, e, an⟩ } by rw [HM17.out, qqy, if_pos hcn, ← HB14.out, ← HR14.out, HAN.out]); clear hcn; have q4 := HA16.out.cells.2.2.2.2.1; have q2 := HA16.out.cells.2.2.1; have hla := qa0 HA16.out.box.1; have b17 : Below w16.heap.size w16 w16.drew := (Below.refl _ _).drew; have HF17 := hid (HF16.out.below b17); have HA17 := hid (HA16.out.below b17); have HE17 := hid (HE16.out.trans (Ext.below b17)); have TN := hid (qu4 HA17.out); go_upto_region 34 with fail; go_still_tail 18, (by kernel_rfl); still_call TN.out; repeat still_step
   refine wpStill_nil ?_; change wpList _ _ _ _ _ (World.drew w16); generalize hw17 : World.drew w16 = w17 at *; clear hw17 b17 q4 q2 hla c0 c1 c2 c3 c4 c5 c6 c7 c8 c9 cA hl0 HF16 HA16 HE16 HN16; go_wp2_with fail; have TB := qo8 HA17.out ⟨x.old.line, x.old.cls, M14.rnow, e, an⟩; rw [show (⟨x.old.line, x.old.cls, M14.rnow, e, an⟩ : EntC).val = .agg #[.int .i64 x.old.line, .int .i64 x.old.cls, .int .u64 (M14.rnow : Int), .int .u64 (e : Int), .int .i64 an] from rfl] at TB; refine TB.mono ?_; rintro r w18 ⟨⟨v, rfl⟩, g18, A18, E18⟩; have HF18 := hid (HF17.out.ext E18); have HA18 := hid A18; have HE18 := hid (HE17.out.trans E18); clear TB A18 E18 HF17 HA17 HE17; go_wp2_with fail; go_meet; exact ⟨g18, by rw [HB.out]; exact HA18.out, HE18.out, HF18.out⟩
 obtain ⟨g19, A19, E19, F19⟩ := hcut; obtain ⟨w19, hw19⟩ : ∃ x, x = wc := ⟨_, rfl⟩; subst hw19; have HF19 := hid F19; have HA19 := hid A19; have HE19 := hid E19; clear A19 E19 F19 c0 c1 c2 c3 c4 c5 c6 c7 c8 c9 cA hl0 HF16 HN16 HA16 HE16; have hlE : M.E.length ≤ 50000 := HP.out.few.e; have hlE17 : M17.E.length ≤ 50000 := by rw [HEL14.out.1]; exact hlE
 have qA := HA19.out.cells.2.2.2.2.2.2.2.2.2.2; have fA := frozen_of_row w19 a 10 _ _ HA19.out.box.1; have hla := qa0 HA19.out.box.1; have z0 : w19.cell? ⟨kb + 1, 0, none⟩ = some (.int .i64 f1.kind) := cell_of_row w19 _ 0 _ _ _ HF19.out.1; have z1 : w19.cell? ⟨kb + 1, 1, none⟩ = some (.string f1.key) := cell_of_row w19 _ 1 _ _ _ HF19.out.1; have z2 : w19.cell? ⟨kb + 1, 2, none⟩ = some (.string f1.val) := cell_of_row w19 _ 2 _ _ _ HF19.out.1; have z3 : w19.cell? ⟨kb + 1, 3, none⟩ = some (.int .u64 (f1.id : Int)) := cell_of_row w19 _ 3 _ _ _ HF19.out.1; have z4 : w19.cell? ⟨kb + 1, 4, none⟩ = some (.int .u64 (f1.ver : Int)) := cell_of_row w19 _ 4 _ _ _ HF19.out.1; have z5 : w19.cell? ⟨kb + 1, 5, none⟩ = some (.int .u64 (f1.ep : Int)) := cell_of_row w19 _ 5 _ _ _ HF19.out.1; have z6 : w19.cell? ⟨kb + 1, 6, none⟩ = some (.int .i64 f1.grp) := cell_of_row w19 _ 6 _ _ _ HF19.out.1; have hlz := HF19.out.lt; have HLE := hid hlE17; obtain ⟨i0, hi0, hz0, hz1, hz2⟩ := info_parts qp3; have HI := hid hi0; have HZ0 := hid hz0; have HZ1 := hid hz1; have HZ2 := hid hz2; have HRW := hid (HA19.out.eff.1.notBox HA19.out.box.1 (by decide)); clear hi0 hz0 hz1 hz2 hlE hlE17; have HFIN : Hid (∀ A' c', chM M x e grp n owed' A' c' = { M17 with E := M17.E ++ [f1], eA := A', ec := c' }) := hid fun A' c' => by
  rw [HM17.out, HM14.out, chM, HF1.out]
 go_upto_region 35 with fail; go_region_law (refine qbe (l := M17.E) (m := [f1]) (A := M17.eA) (c := M17.ec) (lo := 0) _ rfl (.tmp 188) (.tmp 190) 59 rfl i0 _ 72 underlying59 HI.out HZ0.out HZ1.out HZ2.out rfl (by decide) EffC.enc_len EffC.enc_one (by simp [Act.eval]) (by first | exact HA19.out.eff.1.alloc _ | exact HA19.out.eff.1.drew.alloc _ | exact (HA19.out.eff.1.alloc _).drew) (A2 := some ⟨w19.heap.size, 0, none⟩) 1 (by simp [Act.eval]) (qr8 (vb := w19.heap.size) (x := f1) (by first | (rw [qa2, if_pos (by simp)]; rfl) | (show (World.alloc _ _).heap[_]? = _; rw [qa2, if_pos (by simp)]; rfl))) (by have := HLE.out; unfold maxLen; simp; omega) (by have := HLE.out; simp; omega) (Nat.zero_le _) ?_; intro A' c' w20 hown hgr hloc; have B20 : w20.heap[a]? = some (.cells (qje P M17.id M17.ver M17.eA M17.E.length M17.ec).toArray 127 (0, 0)) := (hgr.block a (by first | (simp; omega) | omega) HRW.out).trans ((by first | exact Below.heap_alloc w19 _ _ hla | exact Below.heap_alloc w19.drew _ _ hla : _ = w19.heap[a]?).trans HA19.out.box.1); have e31 : w20.cell? ⟨a, 10, none⟩ = some (.slice M17.eA M17.E.length M17.ec) := cell_of_row w20 a 10 _ _ _ B20; have f31 := frozen_of_row w20 a 10 _ _ B20; have hp3 := qa0 B20); all_goals
  have hT := ATo.below (by first | exact (Below.refl _ _).alloc (Nat.le_refl _) _ | exact (Below.refl _ _).drew.alloc (Nat.le_refl _) _ | exact ((Below.refl _ _).alloc (Nat.le_refl _) _).drew) (qa6.setEff (HA19.out.below (by first | exact (Below.refl _ _).alloc (Nat.le_refl _) _ | exact (Below.refl _ _).drew.alloc (Nat.le_refl _) _ | exact ((Below.refl _ _).alloc (Nat.le_refl _) _).drew)) hgr hown (hloc.imp (fun h => h) fun ⟨y, h1, h2⟩ => ⟨y, 0, h1, h2⟩)); rw [List.length_append, ← HFIN.out] at hT; simp only [List.length_singleton] at hT; have HT := hid (ATo.trans HE19.out hT); clear hT hgr hown hloc; go_wp2; go_ret; exact ⟨by rw [HVER.out]; rfl, owed', A', c', HOLF.out, HT.out⟩
end
end
section
open Go.RowKit
theorem qtr : (prog.info? 40).map (·.size) = some 5 := by kernel_rfl
theorem qy4 {W W' : World} {b x o0 o1 o2 p0 p1 p2 p3 p4 : Nat} {v0 v1 v2 u0 u1 u2 u3 u4 : Value} (hb : Below W.heap.size W W') (hl : b < W.heap.size) (hx : x < W.heap.size) (h : W.cell? ⟨b, o0, none⟩ = some v0 ∧ W.cell? ⟨b, o1, none⟩ = some v1 ∧ W.cell? ⟨b, o2, none⟩ = some v2 ∧ W.cell? ⟨x, p0, none⟩ = some u0 ∧ W.cell? ⟨x, p1, none⟩ = some u1 ∧ W.cell? ⟨x, p2, none⟩ = some u2 ∧ W.cell? ⟨x, p3, none⟩ = some u3 ∧ W.cell? ⟨x, p4, none⟩ = some u4) :
 W'.cell? ⟨b, o0, none⟩ = some v0 ∧ W'.cell? ⟨b, o1, none⟩ = some v1 ∧ W'.cell? ⟨b, o2, none⟩ = some v2 ∧ W'.cell? ⟨x, p0, none⟩ = some u0 ∧ W'.cell? ⟨x, p1, none⟩ = some u1 ∧ W'.cell? ⟨x, p2, none⟩ = some u2 ∧ W'.cell? ⟨x, p3, none⟩ = some u3 ∧ W'.cell? ⟨x, p4, none⟩ = some u4 :=
 have k : ∀ o, W'.cell? ⟨b, o, none⟩ = W.cell? ⟨b, o, none⟩ := fun o => hb.cell (p := ⟨b, o, none⟩) hl
 have q : ∀ o, W'.cell? ⟨x, o, none⟩ = W.cell? ⟨x, o, none⟩ := fun o => hb.cell (p := ⟨x, o, none⟩) hx
 ⟨(k _).trans h.1, (k _).trans h.2.1, (k _).trans h.2.2.1, (q _).trans h.2.2.2.1, (q _).trans h.2.2.2.2.1, (q _).trans h.2.2.2.2.2.1, (q _).trans h.2.2.2.2.2.2.1, (q _).trans h.2.2.2.2.2.2.2⟩
section
variable {g : Own8} {w : World} {lo a b t : Nat} {P : qag} {M : qa4} {ty : TypeId} {f : qa5} {d : FrD}
def qxq (f : qa5) (c : qa7) (i : Nat) (w : World) (e : Ending) (w' : World) : Prop := ∃ pb po, f.pA = some ⟨pb, po, none⟩ ∧ e = .returned (.tuple #[qbz c, .pointer (some ⟨pb, po + i * 8, none⟩)]) ∧ Below w.heap.size w w'
theorem qhq (h : WSt g w lo a P M b t ty f d) (i : Nat) (hi : f.at' = (i : Int)) (hg : i < d.gr.length) (hp : i < d.ps.length) : Calls prog 257 #[.pointer (some ⟨b, 0, none⟩)] w (qxq f d.gr[i] i w) := by
 have c6 := h.box.c 6 rfl; have c22 := h.box.c 22 rfl; have c23 := h.box.c 23 rfl; rw [hi] at c22; rw [h.grp.1.2.1] at c6; rw [h.prt.2.1] at c23; have hl := h.box.lt; obtain ⟨x, off, hA, hx, k0, k1, k2, k3, k4⟩ := h.grp.1.1.call0 hg; obtain ⟨pb, po, hpA⟩ : ∃ pb po, f.pA = some ⟨pb, po, none⟩ := by
  rcases h.prt.1.arr qas.enc_len with h0 | ⟨pb, po, h1, _⟩
  · rw [h0] at hp; simp at hp
  · exact ⟨pb, po, h1⟩
 rw [hA] at c6; rw [hpA] at c23; have i0 : (0 : Int) ≤ (i : Int) := by omega
 have i1 : (i : Int) < (d.gr.length : Int) := by omega
 have i2 : (i : Int) < (d.ps.length : Int) := by omega
 have HPA := hid hpA; have HC := hid (And.intro c6 (And.intro c22 (And.intro c23 (And.intro k0 (And.intro k1 (And.intro k2 (And.intro k3 k4))))))); clear h hi hA hpA; generalize d.gr[i] = c at *; generalize d.gr.length = n at *; generalize d.ps.length = m at *; go_enter func257, ntmps257; go_upto_region 1 with fail; generalize hw1 : World.alloc _ _ = w1; obtain ⟨q, hq⟩ : ∃ q, q = w.heap.size := ⟨_, rfl⟩; have R1 : w1.heap[q]? = some (.cells #[.int .i64 0, .string ByteArray.empty, .string ByteArray.empty, .string ByteArray.empty, .slice none 0 0] 40 (0, 0)) := by rw [← hw1, hq]; exact (qa2 _ _ _).trans (if_pos rfl)
 have b1 : Below w.heap.size w w1 := by rw [← hw1]; exact (Below.refl _ _).alloc (Nat.le_refl _) _
 rw [← hq]; have hqw : w.heap.size ≤ q := by omega
 have hc1 := qy4 b1 hl hx HC.out; have HC1 := hid hc1; obtain ⟨c6, c22, c23, k0, k1, k2, k3, k4⟩ := hc1; have e0 : w1.cell? ⟨q, 0, none⟩ = some (.int .i64 0) := cell_of_row w1 _ 0 _ _ _ R1; have e1 : w1.cell? ⟨q, 1, none⟩ = some (.string ByteArray.empty) := cell_of_row w1 _ 1 _ _ _ R1; have e2 : w1.cell? ⟨q, 2, none⟩ = some (.string ByteArray.empty) := cell_of_row w1 _ 2 _ _ _ R1; have e3 : w1.cell? ⟨q, 3, none⟩ = some (.string ByteArray.empty) := cell_of_row w1 _ 3 _ _ _ R1; have e4 : w1.cell? ⟨q, 4, none⟩ = some (.slice none 0 0) := cell_of_row w1 _ 4 _ _ _ R1; have g0 : w1.frozen? ⟨q, 0, none⟩ = false := frozen_of_row w1 _ 0 _ _ R1; have g1 : w1.frozen? ⟨q, 1, none⟩ = false := frozen_of_row w1 _ 1 _ _ R1; have g2 : w1.frozen? ⟨q, 2, none⟩ = false := frozen_of_row w1 _ 2 _ _ R1; have g3 : w1.frozen? ⟨q, 3, none⟩ = false := frozen_of_row w1 _ 3 _ _ R1; have g4 : w1.frozen? ⟨q, 4, none⟩ = false := frozen_of_row w1 _ 4 _ _ R1; have hbq : b ≠ q := by omega
 have hxq : x ≠ q := by omega
 have hq1 := qa0 R1; have hl1 : b < w1.heap.size := by omega
 have hx1 : x < w1.heap.size := by omega
 have HR1 := hid R1; have HB1 := hid b1; have ST1 := b1; clear hw1 R1 b1 hq; go_region_held3 (fun W => W.cell? ⟨b, 6, none⟩ = some (.slice (some ⟨x, off, none⟩) n f.call.gc) ∧ W.cell? ⟨b, 22, none⟩ = some (.int .i64 (i : Int)) ∧ W.cell? ⟨b, 23, none⟩ = some (.slice (some ⟨pb, po, none⟩) m f.pc) ∧ W.cell? ⟨x, off + i * 5, none⟩ = some (.int .i64 c.kind) ∧ W.cell? ⟨x, off + i * 5 + 1, none⟩ = some (.string c.key) ∧ W.cell? ⟨x, off + i * 5 + 2, none⟩ = some (.string c.val) ∧ W.cell? ⟨x, off + i * 5 + 3, none⟩ = some (.string c.tx) ∧ W.cell? ⟨x, off + i * 5 + 4, none⟩ = some (.slice c.gA c.gn c.gc)) (first | (with_reducible refine qy4 (W := w) ?_ hl hx HC.out; (repeat (first | with_reducible exact Below.refl _ _ | with_reducible assumption | with_reducible refine Below.drew ?_ | with_reducible refine qa1 ?_ _ | refine qba ?_ hqw 0 _ _ _ _ _)); done) | go_keep) (fail); all_goals
  have HRW := hid (qay (qay (qay (qay (qay (cs := [.int .i64 0, .string ByteArray.empty, .string ByteArray.empty, .string ByteArray.empty, .slice none 0 0]) HR1.out 0 (.int .i64 c.kind)) 1 (.string c.key)) 2 (.string c.val)) 3 (.string c.tx)) 4 (.slice c.gA c.gn c.gc)); have HBZ := hid (qba HB1.out hqw 0 (.int .i64 c.kind) (.string c.key) (.string c.val) (.string c.tx) (.slice c.gA c.gn c.gc)); clear e0 e1 e2 e3 e4 g0 g1 g2 g3 g4; go_wp2_with fail; refine bodyPost_ret (v := .tuple #[qbz c, .pointer (some ⟨pb, po + i * 8, none⟩)]) ?_ rfl ⟨pb, po, HPA.out, rfl, ?_⟩
  · exact qdp results257 _ _ q c.enc _ rfl (qb5 (t := 40) (by first | exact HRW.out | exact (show (World.drew _).heap[_]? = _ from HRW.out) | exact (show (World.drewN _ _).heap[_]? = _ from HRW.out))) underlying40 rfl qtr
  · first | exact HBZ.out | exact HBZ.out.drew | exact qa1 HBZ.out _
end
end
end Go.Proofs.YtecikkjbnkhhkaaGreat
