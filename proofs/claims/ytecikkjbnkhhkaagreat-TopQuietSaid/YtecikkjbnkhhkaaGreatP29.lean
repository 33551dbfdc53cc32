/- A part of the walk. -/
import Derived.Test.YtecikkjbnkhhkaaGreatP21
import Derived.Test.YtecikkjbnkhhkaaGreatP19
namespace Go.Proofs.YtecikkjbnkhhkaaGreat
open _root_.Go.Proofs.Tryz
set_option maxHeartbeats 8000000
set_option maxRecDepth 100000
section
open Go.RowKit
def lvS (L : List qa3) (x : qa3) (k : Nat) : Nat → List qa3 := fun j => if j < k then setL (atLv L j) x else atLv L j
theorem qsi (L : List qa3) (x : qa3) (k : Nat) : lvS L x k k = atLv L k := by simp [lvS]
theorem qot (L : List qa3) (x : qa3) (k : Nat) (j : Nat) : upd (lvS L x k) k (setL (atLv L k) x) j = lvS L x (k + 1) j := by
 unfold upd lvS; by_cases h : j = k
 · subst h; simp
 · rw [if_neg h]
   by_cases h2 : j < k
   · rw [if_pos h2, if_pos (by omega)]
   · rw [if_neg h2, if_neg (by omega)]
theorem qz1 {L : List qa3} (h : Rise L) (x : qa3) (j : Nat) : lvS L x (qgn x.key) j = atLv (setL L x) j := by rw [qAm h]; rfl
theorem qe5 {w : World} {b : Nat} {cs : Array Value} {t : TypeId} (h : w.heap[b]? = some (.cells cs t (0, 0))) (j : Nat) : w.cell? ⟨b, j, none⟩ = cs[j]? := cell_of_row w b j _ _ _ h
theorem qvs {F : Nat → Prop} {L : List qa3} {ob : Nat} (x : qa3) (w : World) (h : Ord F w ob (atLv L)) (hF : ∀ j, w.heap.size ≤ j → F j) (hr : Rise L) (hlen : L.length ≤ 50000) (hkey : x.key.size ≤ 1000000) :
 Calls prog 281 #[.pointer (some ⟨ob, 0, none⟩), .agg #[.string x.key, .int .u64 x.id, .int .u64 x.ver, .int .i64 x.line, .int .i64 x.cls]] w fun e w' => e = .returned (.bool (hasL L x.key)) ∧ Ord F w' ob (atLv (setL L x)) ∧ Only F w w' := by
 have hob := h.lt; have HO := hid h; have HR := hid hr; have HFr := hid hF; obtain ⟨n, hn⟩ : ∃ n, n = qgn x.key := ⟨_, rfl⟩; have hn4 := qhk x.key; rw [← hn] at hn4; have hlev : ∀ w, Calls prog 326 #[.string x.key] w fun e w' => e = .returned (.int .i64 (n : Nat)) ∧ w = w' := fun w => by rw [hn]; exact qiw x.key hkey w
 have HN := hid hn; have hn1 := hn4.1; have hn2 := hn4.2; clear h hr hF hn hn4 hkey; go_enter func281, ntmps281; go_wp2_with (go_at_call 326; refine (hlev _).mono ?_; rintro e w' ⟨rfl, rfl⟩); obtain ⟨W0, hW0⟩ : ∃ W0, W0 = w.alloc (.cells #[.string x.key, .int .u64 x.id, .int .u64 x.ver, .int .i64 x.line, .int .i64 x.cls] 85) := ⟨_, rfl⟩; rw [← hW0]; have HW0 := hid hW0; have hz0 : W0.heap.size = w.heap.size + 1 := by rw [hW0]; simp
 have hb0 : Below w.heap.size w W0 := by rw [hW0]; exact (by repeat (first | exact Below.refl _ _ | assumption | refine Below.drew ?_ | refine qa1 ?_ _ | refine Below.alloc ?_ (by first | omega | simp <;> omega) _ | refine Below.setCell ?_ (by first | omega | simp <;> omega) _))
 have hx0 : W0.heap[w.heap.size]? = some (.cells #[.string x.key, .int .u64 x.id, .int .u64 x.ver, .int .i64 x.line, .int .i64 x.cls] 85 (0, 0)) := by rw [hW0]; exact Array.getElem?_push_size
 have HX0 := hid hx0; clear hW0 hx0; have HO0 : Hid (Ord (fun j => F j ∧ j ≠ w.heap.size) W0 ob (lvS L x 0)) := hid ((((HO.out.trim).mono (G := fun j => F j ∧ j ≠ w.heap.size) (fun j hj => ⟨hj.1, by have := hj.2; omega⟩)).below hb0).congr fun j _ => by simp [lvS]); go_loopw [5, 14] (fun v5 v14 wr => ∃ k : Nat, k ≤ n ∧ v14 = .int .i64 k ∧ v5 = .bool (decide (0 < k) && hasL L x.key) ∧ Ord (fun j => F j ∧ j ≠ w.heap.size) wr ob (lvS L x k) ∧ Only (fun j => F j ∧ j ≠ w.heap.size) W0 wr) (fun _ v14 _ => n - (intOf v14).toNat)
 case atStart => exact ⟨0, Nat.zero_le _, rfl, by simp, HO0.out, Only.refl _ _⟩
 case round =>
  obtain ⟨k, hkn, rfl, rfl, hord, honly⟩ := hrel; by_cases hlt : k < n
  · have hxr := (honly.block w.heap.size (by omega) (fun hh => hh.2 rfl)).trans HX0.out
    have x0 := qe5 hxr 0; have x1 := qe5 hxr 1; have x2 := qe5 hxr 2; have x3 := qe5 hxr 3; have x4 := qe5 hxr 4; simp at x0 x1 x2 x3 x4; obtain ⟨hFob, A, c, hin⟩ := hord; have c0 := hin.cell k (by omega); have HIN := hid hin; have HON := hid honly; have hobr := hin.lt; have hsz := honly.size; rw [qsi] at c0; have hown := hin.own k (by omega); rw [qsi] at hown; have HOW := hid hown; have hln := hown.len; have hmx := hown.max; have hk4 : (k : Int) < 4 := by omega
    have hll : (atLv L k).length ≤ 100000 := by have := qy2 L k; omega
    clear hin honly hown hxr; go_wp2_with fail; go_region_with (go_at_call 312; refine (qli (atLv L k) (qhd HR.out k) _ _ x.key _ (((HOW.out.arr qa3.enc_len).below (by repeat (first | exact Below.refl _ _ | assumption | refine Below.drew ?_ | refine qa1 ?_ _ | refine Below.alloc ?_ (by first | omega | simp <;> omega) _ | refine Below.setCell ?_ (by first | omega | simp <;> omega) _))).more (by first | omega | simp <;> omega)) hln hmx hll).mono ?_; rintro e w1 ⟨rfl, hb1⟩); all_goals
     have bw1 : Below wr.heap.size wr w1 := Below.trans (by repeat (first | exact Below.refl _ _ | assumption | refine Below.drew ?_ | refine qa1 ?_ _ | refine Below.alloc ?_ (by first | omega | simp <;> omega) _ | refine Below.setCell ?_ (by first | omega | simp <;> omega) _)) (hb1.mono (by first | omega | simp <;> omega)); have hz1 := bw1.size; have c1 := (bw1.cell (p := ⟨ob, k, none⟩) hobr).trans c0; have hxw : w.heap.size < wr.heap.size := by omega
     have y0 := (bw1.cell (p := ⟨w.heap.size, 0, none⟩) hxw).trans x0; have y1 := (bw1.cell (p := ⟨w.heap.size, 1, none⟩) hxw).trans x1; have y2 := (bw1.cell (p := ⟨w.heap.size, 2, none⟩) hxw).trans x2; have y3 := (bw1.cell (p := ⟨w.heap.size, 3, none⟩) hxw).trans x3; have y4 := (bw1.cell (p := ⟨w.heap.size, 4, none⟩) hxw).trans x4; have HIN1 := hid (HIN.out.below bw1); have HOW1 := hid (HOW.out.below bw1); have hob1 : ob < w1.heap.size := by omega
     have hkey : hasL (atLv L k) x.key = hasL L x.key := qy7 (by rw [← HN.out]; exact hlt); have HKEY := hid hkey; clear hkey c0 x0 x1 x2 x3 x4 hb1; obtain ⟨p, hp⟩ : ∃ p, p = posL (atLv L k) x.key := ⟨_, rfl⟩; rw [← hp]; have HP := hid hp; clear hp; cases hh : hasL (atLv L k) x.key with
     | true =>
      have HH := hid hh; have HS := qvn (qhd HR.out k) hh; rw [← HP.out] at HS; have hpl := HS.1; have hpl' : (p : Int) < ((atLv L k).length : Int) := by omega
      have HST := hid HS.2; clear HS hh; obtain ⟨b, off, hA, hB, k0, k1, k2, k3, k4⟩ := (HOW1.out.arr qa3.enc_len).link hpl; have hfz := HOW1.out.frozen hA (by omega); have f0 := hfz (off + p * 5); have f1 := hfz (off + p * 5 + 1); have f2 := hfz (off + p * 5 + 2); have f3 := hfz (off + p * 5 + 3); have f4 := hfz (off + p * 5 + 4); rw [hA] at c1; clear hfz; have hput : Ord (fun j => F j ∧ j ≠ w.heap.size) (w1.setCells b (off + p * 5) x.enc).drew ob (lvS L x (k + 1)) ∧ Only (fun j => F j ∧ j ≠ w.heap.size) w1 (w1.setCells b (off + p * 5) x.enc).drew := by
       have g := qb4 b x.enc (off + p * 5) w1; have hck : ¬ (c k = 0) := by omega
       have ho2 : Own qa3.enc 85 5 (w1.setCells b (off + p * 5) x.enc).drew 0 (A k) (c k) (setL (atLv L k) x) := by
        have ho := HOW1.out; rw [hA] at ho ⊢; rw [HST.out]; exact (ho.setLink hpl x).drew
       obtain ⟨r1, r2⟩ := HIN1.out.put2 hFob (by omega) (w3 := (w1.setCells b (off + p * 5) x.enc).drew) (by rw [hA, qa8, if_neg hck]; exact ⟨g.os, g.tape, g.output, g.size, g.block⟩) ho2 (by rw [qsi, HST.out, List.length_set]); exact ⟨r1.congr fun j _ => qot L x k j, r2⟩
      have HPUT := hid hput; clear hput; go_wp2_with fail; go_region; all_goals
       go_wp2_with fail; go_roundw
       case rel =>
        refine ⟨k + 1, by omega, by go_num, ?_, HPUT.out.1, (HON.out.trans (Only.of_below bw1)).trans HPUT.out.2⟩; rw [← HKEY.out, HH.out]; simp
       case measure => simp [intOf]; omega
     | false =>
      have HH := hid hh; have HS := qvl (qhd HR.out k) hh; rw [← HP.out] at HS; have hpl := HS.1; have HST := hid HS.2; have HL4 := hid (HIN1.out.lies k (by omega)); have q1' := HIN1.out.frz k; clear HS hh; go_wp2_with fail; go_region_with (go_at_call 327; refine (qnj (atLv L k) (A k) (c k) 0 w1.heap.size p x _ ?_ ?_ (Nat.zero_le _) hll hpl ?_).mono ?_; (exact HOW1.out.below (by repeat (first | exact Below.refl _ _ | assumption | refine Below.drew ?_ | refine qa1 ?_ _ | refine Below.alloc ?_ (by first | omega | simp <;> omega) _ | refine Below.setCell ?_ (by first | omega | simp <;> omega) _))); (exact Array.getElem?_push_size); (rcases HOW1.out.lt with h0 | ⟨b, off, hA, _, hlt⟩; exact .inl h0; exact .inr fun b' o' hA' hbb => by rw [hA] at hA'; cases hA'; omega); rintro e w3 ⟨A', c', rfl, hown, hgr, hloc⟩; have hb3 : w3.heap[ob]? = w1.heap[ob]? := ((hgr.block ob (by simp; omega) fun hr => ((HOW1.out.row HL4.out ob hr.symm).2 rfl)).trans (Below.heap_alloc _ _ _ (show ob < w1.heap.size by omega))); have q0 := (qaj (p := ⟨ob, k, none⟩) hb3).trans c1; have q1 := (qbg (p := ⟨ob, k, none⟩) hb3).trans q1'); all_goals
       go_wp2_with fail; go_roundw
       case rel =>
        obtain ⟨r1, r2⟩ := HIN1.out.put hFob (by omega) (fun j hj => ⟨HFr.out j (by omega), by omega⟩) (by repeat (first | exact Below.refl _ _ | assumption | refine Below.drew ?_ | refine qa1 ?_ _ | refine Below.alloc ?_ (by first | omega | simp <;> omega) _ | refine Below.setCell ?_ (by first | omega | simp <;> omega) _)) hgr hown (qfx _ _ _ hpl).symm hloc; refine ⟨k + 1, by omega, by go_num, ?_, ?_, (HON.out.trans (Only.of_below bw1)).trans r2⟩
        · rw [← HKEY.out, HH.out]
          simp
        · rw [← HST.out] at r1
          exact r1.congr fun j _ => qot L x k j
       case measure => simp [intOf]; omega
  · obtain rfl : k = n := by omega
    have HORD := hid hord; have HON := hid honly; clear hord honly; go_wp2; go_ret; refine ⟨?_, ?_, (Only.of_below hb0).trans (HON.out.mono fun j hj => hj.1)⟩
    · have : decide (0 < k) = true := by simp; omega
      simp [this]
    · have := HORD.out.mono (G := F) (fun j hj => hj.1)
      exact this.congr fun j _ => by rw [HN.out]; exact qz1 HR.out x j
end
section
open Go.RowKit
def qgo (pos : ByteArray) (past : Bool) (k : ByteArray) : Bool := !past || kl pos k
def qes (L : List qa3) (pos : ByteArray) (past : Bool) : Option qa3 → Prop
 | some x => x ∈ L ∧ qgo pos past x.key = true ∧ ∀ y ∈ L, qgo pos past y.key = true → y = x ∨ kl x.key y.key = true
 | none => ∀ y ∈ L, qgo pos past y.key = false
theorem qy8 (k p : ByteArray) : (!(Op.bytesLess k.toList p.toList || k.toList == p.toList)) = kl p k := by
 show (!(kl k p || k.toList == p.toList)) = kl p k
 cases h : kl p k with
 | true =>
  have h1 := qei h; have h2 : (k.toList == p.toList) = false := by
   rw [beq_eq_false_iff_ne]; intro e; have := qbu e; subst this; rw [qdh] at h; cases h
  rw [h1, h2]; rfl
 | false =>
  cases h1 : kl k p with
  | true => rfl
  | false =>
   have := qp0 h1 h; subst this; simp
theorem qne {L : List qa3} (hn : (L.map (·.key)).Nodup) {x : qa3} (hx : x ∈ L) : qd0 L x.key = some x := by
 obtain ⟨j, hj, rfl⟩ := List.getElem_of_mem hx; refine List.find?_eq_some_iff_getElem.2 ⟨by simp, j, hj, rfl, fun i hi => ?_⟩; have := List.pairwise_iff_getElem.1 hn i j (by simp; omega) (by simpa using hj) hi; simpa using this
theorem qwb {L : List qa3} (hn : (L.map (·.key)).Nodup) {x y : qa3} (hx : x ∈ L) (hy : y ∈ L) (e : x.key = y.key) : x = y := by
 have h1 := qne hn hx; have h2 := qne hn hy; rw [e] at h1; exact Option.some.inj (h1.symm.trans h2)
theorem qyw {L : List qa3} {K : List ByteArray} {pos : ByteArray} {past : Bool} (hn : (L.map (·.key)).Nodup) (hK : qub L K) {i : Nat} (hi : i < K.length) (hc : qgo pos past K[i] = true) (hb : ∀ j (h : j < K.length), j < i → qgo pos past K[j] = false) : ∃ x, qd0 L K[i] = some x ∧ qes L pos past (some x) := by
 have hm : K[i] ∈ L.map (·.key) := (hK.1.mem_iff).1 (List.getElem_mem hi); obtain ⟨x, hx, hxe⟩ := List.mem_map.1 hm; refine ⟨x, by rw [← hxe]; exact qne hn hx, hx, by rw [hxe]; exact hc, fun y hy hcy => ?_⟩; have hym : y.key ∈ K := (hK.1.mem_iff).2 (List.mem_map.2 ⟨y, hy, rfl⟩); obtain ⟨j, hj, hje⟩ := List.getElem_of_mem hym; rcases Nat.lt_trichotomy j i with h | h | h
 · have := hb j hj h
   rw [hje, hcy] at this; cases this
 · subst h
   exact .inl (qwb hn hy hx (by rw [← hje, hxe]))
 · right
   rw [hxe, ← hje]; exact List.pairwise_iff_getElem.1 hK.2 i j hi hj h
theorem qs9 {L : List qa3} {K : List ByteArray} {pos : ByteArray} {past : Bool} (hK : qub L K) (hb : ∀ j (h : j < K.length), qgo pos past K[j] = false) : qes L pos past none := fun y hy => by
 obtain ⟨j, hj, hje⟩ := List.getElem_of_mem ((hK.1.mem_iff).2 (List.mem_map.2 ⟨y, hy, rfl⟩))
 rw [← hje]
 exact hb j hj
theorem Arr.txt1 {w : World} {B : Nat} {A : Option Addr} {l : List ByteArray} (h : Arr txtE 1 w B A l) {i : Nat} (hi : i < l.length) : ∃ b off, A = some ⟨b, off, none⟩ ∧ b < B ∧ w.cell? ⟨b, off + i, none⟩ = some (.string l[i]) := by
 rcases h with h | ⟨b, off, hA, hB, hc⟩
 · subst h; simp at hi
 · refine ⟨b, off, hA, hB, ?_⟩
   have := hc i hi 0 _ rfl; simpa using this
def quh (L : List qa3) (pos : ByteArray) (past : Bool) (w : World) (e : Ending) (w' : World) : Prop := ∃ r : Option qa3, e = .returned (.tuple #[(r.getD qak).val, .bool r.isSome]) ∧ qes L pos past r ∧ Below w.heap.size w w'
section
variable {F : Nat → Prop} {w : World} {tb : Nat} {mb : Nat → Nat} {B : Nat → List qa3}
theorem qh5 (h : qbk F w tb mb B) (k : Nat) (hk : k < 8) (pos : ByteArray) (past : Bool) (hl : (B k).length ≤ 1000000) : Calls prog 239 #[.pointer (some ⟨tb, 0, none⟩), .int .i64 (k : Int), .string pos, .bool past] w (quh (B k) pos past w) := by
 have H := hid h; have hk0 : (0 : Int) ≤ (k : Int) := by omega
 have hk8 : (k : Int) < 8 := by omega
 have hkn0 : ¬ (k : Int) < 0 := by omega
 have hkn8 : ¬ (8 : Int) ≤ (k : Int) := by omega
 have HKL := hid hl; have HBK := hid (h.bkt k hk); clear h hl; go_enter func239, ntmps239; go_upto_region 1 with fail; generalize hw1 : World.alloc w _ = w1; have b1 : Below w.heap.size w w1 := by rw [← hw1]; exact (Below.refl _ _).alloc (Nat.le_refl _) _
 have R1 : w1.heap[w.heap.size]? = some (.cells qak.enc.toArray 85 (0, 0)) := by rw [← hw1]; exact (qa2 _ _ _).trans (if_pos rfl)
 have HR1 := hid R1; have HB1 := hid b1; have H1 := hid (H.out.below b1); have hl1 := qa0 R1; have ht1 := H1.out.lt; have tc := H1.out.cell hk; clear hw1 R1 b1; go_wp2_with fail; refine (qwa (mb k) w1).mono ?_; rintro e w2 ⟨rfl, rfl⟩; go_wp2_with fail; refine (qpx (mb k) (B k) w1 (H1.out.map k hk) (fun x hx => (HBK.out x hx).2) HKL.out).mono ?_; rintro e w3 ⟨A, c, K, rfl, hown, hb, hKO⟩; try simp only [World.size_alloc] at hb
 have b13 : Below w1.heap.size w1 w3 := ((Below.refl _ _).alloc (Nat.le_refl _) _).trans (hb.mono (Nat.le_succ _)); have H3 := hid (H1.out.below b13); have HB3 := hid (HB1.out.trans (b13.mono HB1.out.size)); have HR3 := hid ((b13.block _ hl1).trans HR1.out); have HO := hid hown; have HKO := hid hKO; have hKl : K.length ≤ 1000000 := by rw [hKO.1.length_eq, List.length_map]; exact HKL.out
 have hl3 := qa0 HR3.out; clear hown hb hKO b13 tc; go_wp2_with fail; go_loopw [12, 34] (fun _ v34 wr => ∃ i : Nat, i ≤ K.length ∧ v34 = .int .i64 i ∧ wr = w3 ∧ Hid (∀ j (h : j < K.length), j < i → qgo pos past K[j] = false)) (fun _ v34 _ => K.length - (intOf v34).toNat)
 case atStart => exact ⟨0, by omega, rfl, rfl, hid fun j _ h => absurd h (by omega)⟩
 case round =>
  obtain ⟨i, hi, rfl, rfl, HC⟩ := hrel; by_cases hlt : i < K.length
  · have hlti : (i : Int) < (K.length : Int) := by omega
    have hii : (0 : Int) ≤ (i : Int) := by omega
    obtain ⟨b, off, rfl, hB, c0⟩ := (HO.out.arr qoh).txt1 hlt; cases hc : qgo pos past K[i] with
    | true =>
     have HX := hid hc; obtain ⟨x, hx1, hx2⟩ := qyw (H3.out.map k hk).nodup HKO.out hlt hc HC.out; have lk := qw6 (H3.out.map k hk) K[i]; rw [hx1] at lk; have HNX := hid hx2; have HXV := hid (show x.val = .agg #[.string x.key, .int .u64 (x.id : Int), .int .u64 (x.ver : Int), .int .i64 x.line, .int .i64 x.cls] from rfl); simp only [Option.getD_some] at lk; rw [HXV.out] at lk; have f0 := frozen_of_row wr _ 0 _ _ HR3.out; have f1 := frozen_of_row wr _ 1 _ _ HR3.out; have f2 := frozen_of_row wr _ 2 _ _ HR3.out; have f3 := frozen_of_row wr _ 3 _ _ HR3.out; have f4 := frozen_of_row wr _ 4 _ _ HR3.out; have q0 := cell_of_row wr _ 0 _ _ _ HR3.out; have q1 := cell_of_row wr _ 1 _ _ _ HR3.out; have q2 := cell_of_row wr _ 2 _ _ _ HR3.out; have q3 := cell_of_row wr _ 3 _ _ _ HR3.out; have q4 := cell_of_row wr _ 4 _ _ _ HR3.out; simp only [qa3.enc, List.getElem?_toArray, List.getElem?_cons_zero, List.getElem?_cons_succ] at q0 q1 q2 q3 q4; clear hc hx1 hx2; cases past with
     | false =>
      go_wp2_with fail; refine bodyPost_ret (v := .tuple #[x.val, .bool true]) (qdq results239 _ _ w.heap.size x _ (by simp) (by simp) (box5 HR3.out)) rfl ⟨some x, rfl, HNX.out, ?_⟩; exact qae (Nat.le_refl _) x.enc 0 wr HB3.out
     | true =>
      have hg : kl pos K[i] = true := by have := HX.out; simpa [qgo] using this
      have hgg := qy8 K[i] pos; rw [hg] at hgg; have hg2 : (Op.bytesLess K[i].toList pos.toList || K[i].toList == pos.toList) = false := by simpa using hgg
      clear hg hgg; go_wp2_with fail; refine bodyPost_ret (v := .tuple #[x.val, .bool true]) (qdq results239 _ _ w.heap.size x _ (by simp) (by simp) (box5 HR3.out)) rfl ⟨some x, rfl, HNX.out, ?_⟩; exact qae (Nat.le_refl _) x.enc 0 wr HB3.out
    | false =>
     have HX := hid hc; clear hc; cases past with
     | false => have := HX.out; simp [qgo] at this
     | true =>
      have hg : kl pos K[i] = false := by have := HX.out; simpa [qgo] using this
      have hgg := qy8 K[i] pos; rw [hg] at hgg; have hg2 : (Op.bytesLess K[i].toList pos.toList || K[i].toList == pos.toList) = true := by
       revert hgg; cases (Op.bytesLess K[i].toList pos.toList || K[i].toList == pos.toList) <;> simp
      clear hg hgg; have HN1 : Hid (∀ j (h : j < K.length), j < i + 1 → qgo pos true K[j] = false) := hid fun j hj hji => by
       rcases (by omega : j < i ∨ j = i) with h | rfl
       · exact HC.out j hj h
       · exact HX.out
      have hi1 : Hid (i + 1 ≤ K.length) := hid hlt; have hmes : Hid (K.length - (i + 1) < K.length - i) := hid (by omega); go_wp2_with fail; refine ⟨⟨i + 1, hi1.out, by go_num, by first | rfl | trivial, HN1⟩, ?_⟩; have := hmes.out; simp [intOf]; omega
  · obtain rfl : i = K.length := by omega
    have HR3' : Hid (wr.heap[w.heap.size]? = some (.cells #[.string ByteArray.empty, .int .u64 0, .int .u64 0, .int .i64 0, .int .i64 0] 85 (0, 0))) := hid HR3.out; have f0 := frozen_of_row wr _ 0 _ _ HR3'.out; have f1 := frozen_of_row wr _ 1 _ _ HR3'.out; have f2 := frozen_of_row wr _ 2 _ _ HR3'.out; have f3 := frozen_of_row wr _ 3 _ _ HR3'.out; have f4 := frozen_of_row wr _ 4 _ _ HR3'.out; have q0 := cell_of_row wr _ 0 _ _ _ HR3'.out; have q1 := cell_of_row wr _ 1 _ _ _ HR3'.out; have q2 := cell_of_row wr _ 2 _ _ _ HR3'.out; have q3 := cell_of_row wr _ 3 _ _ _ HR3'.out; have q4 := cell_of_row wr _ 4 _ _ _ HR3'.out; have HFIN := hid (qB3 (a' := .string ByteArray.empty) (c' := .int .u64 0) (d' := .int .u64 0) (e' := .int .i64 0) (f' := .int .i64 0) HR3'.out); go_wp2_with fail; refine bodyPost_ret (v := .tuple #[qak.val, .bool false]) (qdq results239 _ _ w.heap.size qak _ (by simp) (by simp) HFIN.out) rfl ⟨none, rfl, qs9 HKO.out fun j hj => HC.out j hj hj, ?_⟩; exact ((((HB3.out.setCell (p := ⟨w.heap.size, 0, none⟩) (Nat.le_refl _) _).setCell (p := ⟨w.heap.size, 1, none⟩) (Nat.le_refl _) _).setCell (p := ⟨w.heap.size, 2, none⟩) (Nat.le_refl _) _).setCell (p := ⟨w.heap.size, 3, none⟩) (Nat.le_refl _) _).setCell (p := ⟨w.heap.size, 4, none⟩) (Nat.le_refl _) _
end
end
end Go.Proofs.YtecikkjbnkhhkaaGreat
