/- A part of the walk. -/
import Derived.Test.YtecikkjbnkhhkaaGreatP38
import Derived.Test.YtecikkjbnkhhkaaGreatP32
namespace Go.Proofs.YtecikkjbnkhhkaaGreat
open _root_.Go.Proofs.Tryz
set_option maxHeartbeats 4000000
set_option maxRecDepth 100000
section
open Go.RowKit
theorem qq4 (w : World) : Calls prog 75 #[] w fun e w' => e = .returned (.pointer (some ⟨w.heap.size, 0, none⟩)) ∧ Ord (fun j => j = w.heap.size) w' w.heap.size (fun _ => []) ∧ Below w.heap.size w w' ∧ w'.heap.size = w.heap.size + 1 := by
 go_enter func75, ntmps75; go_wp2_with fail; go_ret; refine ⟨rfl, ⟨rfl, fun _ => none, fun _ => 0, ⟨fun i hi => ?_, fun i => ?_, fun _ _ => Own.none_, fun _ _ => .inl rfl, fun _ _ _ _ _ _ _ _ _ _ => .inl rfl⟩⟩, (by repeat (first | exact Below.refl _ _ | assumption | refine Below.drew ?_ | refine qa1 ?_ _ | refine Below.alloc ?_ (by first | omega | simp <;> omega) _ | refine Below.setCell ?_ (by first | omega | simp <;> omega) _)), by simp⟩
 · rw [World.cell?_alloc_at _ _ _ i rfl]
   rcases (by omega : i = 0 ∨ i = 1 ∨ i = 2 ∨ i = 3) with rfl | rfl | rfl | rfl <;> rfl
 · exact World.frozen?_alloc_at _ _ _ i rfl
theorem RdAt.zero {w : World} {lo p rc now : Nat} {H : List Nat} (h : RdAt w lo p rc now H) : RdAt w 0 p rc now H := ⟨h.box, h.rows, ⟨Nat.zero_le _, Nat.zero_le _, h.lo.2.2⟩, h.len, h.now1⟩
theorem qbi.zero {w : World} {lo p oc now dur clo : Nat} {owed : List Int} {noted left : List Bool} {step : Value} (h : qbi w lo p oc now dur clo owed noted left step) : qbi w 0 p oc now dur clo owed noted left step := ⟨h.box, h.rows, ⟨Nat.zero_le _, Nat.zero_le _, h.lo.2.2⟩, h.len⟩
theorem qb8.zero {w : World} {lo p sc : Nat} {S : List qan} (h : qb8 w lo p sc S) : qb8 w 0 p sc S := ⟨h.box, h.rows.lower (Nat.zero_le _), ⟨Nat.zero_le _, Nat.zero_le _, h.lo.2.2⟩, h.len⟩
theorem qfi.zero {w : World} {lo p : Nat} {A : Option Addr} {c : Nat} {l : List EntC} (h : qfi w lo p A c l) : qfi w 0 p A c l := ⟨h.box, h.rows.lower (Nat.zero_le _), Nat.zero_le _⟩
theorem qbo.zero {w : World} {lo p c at' n : Nat} {A : Option Addr} {L : List qa3} (h : qbo w lo p A c L at' n) : qbo w 0 p A c L at' n := ⟨h.box, h.rows.lower (Nat.zero_le _), Nat.zero_le _, h.fit, h.nil⟩
theorem qbb.zero {w : World} {lo p dc : Nat} {D : List qab} (h : qbb w lo p dc D) : qbb w 0 p dc D := ⟨h.box, h.rows.lower (Nat.zero_le _), ⟨Nat.zero_le _, Nat.zero_le _, h.lo.2.2⟩, h.len⟩
def newP (dp dc s0 s1 s2 s3 s5 s6 s7 : Nat) : qag := ⟨s3, dp, dc, s2 + 1, s2, s0 + 1, s0, s1 + 1, s1, s3 + 1, s5, fun i => s5 + 1 + i, s6, s7⟩
structure qjf (w : World) (dp dc n th s0 s1 s2 s3 s5 s6 s7 s8 : Nat) : Prop where
 le : s0 + 1 < s1 ∧ s1 + 1 < s2 ∧ s2 + 1 < s3 ∧ s3 + 1 < s5 ∧ s5 < s6 ∧ s6 < s7 ∧ s7 < s8 ∧ s8 < w.heap.size
 rd : RdAt w 0 (s0 + 1) s0 1 (List.replicate th 0)
 clk : qbi w 0 (s1 + 1) s1 1 0 0 (List.replicate th 0) (List.replicate 258 false) (List.replicate 258 false) qhj
 pool : qb8 w 0 (s2 + 1) s2 (List.replicate ((n - 2) / 8) (qd3 (-1)))
 bag : qfi w 0 (s3 + 1) none 0 []
 tab : qbk (fun j => s5 ≤ j ∧ j < s6) w s5 (fun i => s5 + 1 + i) (fun _ => [])
 ord : Ord (fun j => j = s6) w s6 (fun _ => [])
 line : qbo w 0 s7 none 0 [] 0 0
 box : w.heap[s8]? = some (.cells (qje (newP dp dc s0 s1 s2 s3 s5 s6 s7) 0 0 none 0 0).toArray 127 (0, 0))
theorem qjf.only {w w' : World} {dp dc n th s0 s1 s2 s3 s5 s6 s7 s8 : Nat} {F : Nat → Prop} (h : qjf w dp dc n th s0 s1 s2 s3 s5 s6 s7 s8) (ho : Only F w w') (hF : ∀ j, s0 ≤ j → j ≠ s3 → j < w.heap.size → ¬ F j) : qjf w' dp dc n th s0 s1 s2 s3 s5 s6 s7 s8 := by
 obtain ⟨l1, l2, l3, l4, l5, l6, l7, l8⟩ := h.le; refine ⟨⟨l1, l2, l3, l4, l5, l6, l7, Nat.lt_of_lt_of_le l8 ho.size⟩, h.rd.only ho (hF _ (by omega) (by omega) (by omega)) (hF _ (by omega) (by omega) (by omega)), h.clk.only ho (hF _ (by omega) (by omega) (by omega)) (hF _ (by omega) (by omega) (by omega)), h.pool.only ho (hF _ (by omega) (by omega) (by omega)) (hF _ (by omega) (by omega) (by omega)), h.bag.only ho (hF _ (by omega) (by omega) (by omega)) (fun b hb => by simp [qa8] at hb),
  h.tab.only ho (fun j hj => hF j (by omega) (by omega) (by omega)), h.ord.only ho (fun j hj => hF j (by omega) (by omega) (by omega)), h.line.only ho (hF _ (by omega) (by omega) (by omega)) (fun b hb => by simp [qa8] at hb), (ho.block _ l8 (hF _ (by omega) (by omega) (by omega))).trans h.box⟩
def newG (dp dc s0 s1 s2 s3 s5 s6 s7 s8 : Nat) : Own8 := fun b => if b = dp ∨ b = dc then 2 else if b < s0 then 0 else if b < s1 then 4 else if b < s2 then 5 else if b < s3 then 3 else if b = s3 then 11 else if b < s5 then 6 else if b < s6 then 7 else if b < s7 then 8 else if b < s8 then 9 else if b = s8 then 1 else 0
noncomputable def newM (n th : Nat) : qa4 := { D := formed n, S := List.replicate ((n - 2) / 8) (qd3 (-1)), rnow := 1, H := List.replicate th 0, now := 1, dur := 0, clo := 0, owed := List.replicate th 0, noted := List.replicate 258 false, left := List.replicate 258 false, step := qhj, bag := [], T := fun _ => [], O := [], Q := [], qn := 0, id := 0, ver := 0, E := [], eA := none, ec := 0 }
theorem qjf.arena {w : World} {dp dc n th s0 s1 s2 s3 s5 s6 s7 s8 : Nat} (h : qjf w dp dc n th s0 s1 s2 s3 s5 s6 s7 s8) (hv : w.cell? ⟨s3, 0, none⟩ = some (.pointer (some ⟨dp, 0, none⟩))) (hd : qbb w 0 dp dc (formed n)) (h1 : dp < s0) (h2 : dc < s0) : qa6 (newG dp dc s0 s1 s2 s3 s5 s6 s7 s8) w s8 (newP dp dc s0 s1 s2 s3 s5 s6 s7) (newM n th) := by
 obtain ⟨l1, l2, l3, l4, l5, l6, l7, l8⟩ := h.le; have G : ∀ b, newG dp dc s0 s1 s2 s3 s5 s6 s7 s8 b = if b = dp ∨ b = dc then 2 else if b < s0 then 0 else if b < s1 then 4 else if b < s2 then 5 else if b < s3 then 3 else if b = s3 then 11 else if b < s5 then 6 else if b < s6 then 7 else if b < s7 then 8 else if b < s8 then 9 else if b = s8 then 1 else 0 := fun _ => rfl
 have g2 : ∀ b, b = dp ∨ b = dc → newG dp dc s0 s1 s2 s3 s5 s6 s7 s8 b = 2 := fun b hb => by rw [G, if_pos hb]
 have g4 : ∀ b, s0 ≤ b → b < s1 → newG dp dc s0 s1 s2 s3 s5 s6 s7 s8 b = 4 := fun b x y => by rw [G, if_neg (by omega), if_neg (by omega), if_pos y]
 have g5 : ∀ b, s1 ≤ b → b < s2 → newG dp dc s0 s1 s2 s3 s5 s6 s7 s8 b = 5 := fun b x y => by rw [G, if_neg (by omega), if_neg (by omega), if_neg (by omega), if_pos y]
 have g3 : ∀ b, s2 ≤ b → b < s3 → newG dp dc s0 s1 s2 s3 s5 s6 s7 s8 b = 3 := fun b x y => by rw [G, if_neg (by omega), if_neg (by omega), if_neg (by omega), if_neg (by omega), if_pos y]
 have g11 : newG dp dc s0 s1 s2 s3 s5 s6 s7 s8 s3 = 11 := by rw [G, if_neg (by omega), if_neg (by omega), if_neg (by omega), if_neg (by omega), if_neg (by omega), if_pos rfl]
 have g6 : ∀ b, s3 < b → b < s5 → newG dp dc s0 s1 s2 s3 s5 s6 s7 s8 b = 6 := fun b x y => by rw [G, if_neg (by omega), if_neg (by omega), if_neg (by omega), if_neg (by omega), if_neg (by omega), if_neg (by omega), if_pos y]
 have g7 : ∀ b, s5 ≤ b → b < s6 → newG dp dc s0 s1 s2 s3 s5 s6 s7 s8 b = 7 := fun b x y => by rw [G, if_neg (by omega), if_neg (by omega), if_neg (by omega), if_neg (by omega), if_neg (by omega), if_neg (by omega), if_neg (by omega), if_pos y]
 have g8 : ∀ b, s6 ≤ b → b < s7 → newG dp dc s0 s1 s2 s3 s5 s6 s7 s8 b = 8 := fun b x y => by rw [G, if_neg (by omega), if_neg (by omega), if_neg (by omega), if_neg (by omega), if_neg (by omega), if_neg (by omega), if_neg (by omega), if_neg (by omega), if_pos y]
 have g9 : ∀ b, s7 ≤ b → b < s8 → newG dp dc s0 s1 s2 s3 s5 s6 s7 s8 b = 9 := fun b x y => by rw [G, if_neg (by omega), if_neg (by omega), if_neg (by omega), if_neg (by omega), if_neg (by omega), if_neg (by omega), if_neg (by omega), if_neg (by omega), if_neg (by omega), if_pos y]
 have g1 : newG dp dc s0 s1 s2 s3 s5 s6 s7 s8 s8 = 1 := by rw [G, if_neg (by omega), if_neg (by omega), if_neg (by omega), if_neg (by omega), if_neg (by omega), if_neg (by omega), if_neg (by omega), if_neg (by omega), if_neg (by omega), if_neg (by omega), if_pos rfl]
 have g0 : ∀ b, s8 < b → newG dp dc s0 s1 s2 s3 s5 s6 s7 s8 b = 0 := fun b x => by rw [G, if_neg (by omega), if_neg (by omega), if_neg (by omega), if_neg (by omega), if_neg (by omega), if_neg (by omega), if_neg (by omega), if_neg (by omega), if_neg (by omega), if_neg (by omega), if_neg (by omega)]
 exact ⟨fun b hb => g0 b (by omega), ⟨h.box, g1⟩, ⟨Own.none_, fun b hb => by have hb' : qa8 none 0 = some b := hb; simp [qa8] at hb'⟩, ⟨hv, hd, g11, g2 _ (.inl rfl), g2 _ (.inr rfl)⟩, ⟨h.pool, g3 (s2 + 1) (by omega) (by omega), g3 s2 (by omega) (by omega)⟩, ⟨h.rd, g4 (s0 + 1) (by omega) (by omega), g4 s0 (by omega) (by omega)⟩, ⟨h.clk, g5 (s1 + 1) (by omega) (by omega), g5 s1 (by omega) (by omega)⟩,
  ⟨none, 0, h.bag, g6 (s3 + 1) (by omega) (by omega), fun b hb => by simp [qa8] at hb⟩, h.tab.mono (fun j hj => g7 j hj.1 hj.2), h.ord.mono (fun j hj => g8 j (by omega) (by omega)), ⟨none, 0, ⟨[], 0, 0, h.line, rfl⟩, g9 s7 (by omega) (by omega), fun b hb => by simp [qa8] at hb, Ring.of_box h.line.box (Nat.le_refl _)⟩⟩
def quj (dp dc n th : Nat) (w : World) (e : Ending) (w' : World) : Prop := ∃ s1 s2 s3 s5 s6 s7 s8, e = .returned (.tuple #[.pointer (some ⟨s8, 0, none⟩), .int .i64 0]) ∧ qjf w' dp dc n th w.heap.size s1 s2 s3 s5 s6 s7 s8 ∧ w'.heap[s3]? = some (.cells (qj8 dp).toArray 139 (0, 0)) ∧ Below w.heap.size w w'
theorem qw2 (n th lo dp dc : Nat) (w : World) (hd : qbb w lo dp dc (List.replicate n qbc)) (h1 : 18 ≤ n) (h2 : n ≤ 250) (t1 : 1 ≤ th) (t2 : th ≤ 4) : Calls prog 49 #[.pointer (some ⟨dp, 0, none⟩), .int .i64 (th : Int), .int .u64 0] w (quj dp dc n th w) := by
 have HD := hid hd; have hlt : decide (((List.replicate n qbc).length : Int) < 10) = false := decide_eq_false (by rw [List.length_replicate]; omega); clear hd; go_enter func49, ntmps49; go_wp2_with fail; refine (qs2 th w t1 t2).mono ?_; rintro e w1 ⟨rfl, hrd, hb1⟩; have HRD := hid hrd; have HB1 := hid hb1; have TL := hid (qhn w1 lo dp dc _ (HD.out.of_old hb1)); clear hrd hb1; go_wp2_with fail; refine TL.out.mono ?_; rintro e w1' ⟨rfl, he⟩; rw [he]; clear he TL; go_wp2_with fail; refine (qqv th w1 t1 t2).mono ?_; rintro e w2 ⟨rfl, hck, hb2⟩; have HCK := hid hck; have HB2 := hid hb2; have TL := hid (qhn w2 lo dp dc _ ((HD.out.of_old HB1.out).of_old hb2)); clear hck hb2; go_wp2_with fail; refine TL.out.mono ?_; rintro e w2' ⟨rfl, he⟩; rw [he]; clear he TL hlt; rw [show ((List.replicate n qbc).length : Int) = (n : Int) by rw [List.length_replicate]]; go_wp2_with fail; refine (ql1 n w2 (by omega) (by omega)).mono ?_; rintro e w2' ⟨rfl, he⟩; rw [he]; clear he; go_wp2_with fail; refine (qna ((n - 2) / 8) w2 (by omega) (by omega)).mono ?_; rintro e w3 ⟨rfl, hpl, hb3⟩; have HPL := hid hpl; have HB3 := hid hb3; clear hpl hb3; go_wp2_with fail; generalize hw4 : World.alloc _ _ = w4; have RV : w4.heap[w3.heap.size]? = some (.cells (qj8 dp).toArray 139 (0, 0)) := by rw [← hw4]; exact qaq _ _
 have b4 : Below w3.heap.size w3 w4 := by rw [← hw4]; exact (Below.refl _ _).alloc (Nat.le_refl _) _
 have s4 : w4.heap.size = w3.heap.size + 1 := by rw [← hw4]; simp
 have HRV := hid RV; have HB4 := hid b4; have HS4 := hid s4; clear hw4 RV b4 s4; refine (qr4 w4).mono ?_; rintro e w5 ⟨rfl, hbg, hb5⟩; have HBG := hid hbg; have HB5 := hid hb5; clear hbg hb5; go_wp2_with fail; refine (qps w5).mono ?_; rintro e w6 ⟨rfl, htb, hb6⟩; have HTB := hid htb; have HB6 := hid hb6; clear htb hb6; go_wp2_with fail; refine (qq4 w6).mono ?_; rintro e w7 ⟨rfl, hod, hb7, hs7⟩; have HOD := hid hod; have HB7 := hid hb7; clear hod hb7 hs7; go_wp2_with fail; refine (qnq w7).mono ?_; rintro e w8 ⟨rfl, hff, hb8⟩; have HFF := hid hff; have HB8 := hid hb8; clear hff hb8; go_wp2_with fail; go_ret2; generalize hw9 : World.alloc _ _ = w9; have s4 := HS4.out; have R9 : w9.heap[w8.heap.size]? = some (.cells (qje (newP dp dc w.heap.size w1.heap.size w2.heap.size w3.heap.size w5.heap.size w6.heap.size w7.heap.size) 0 0 none 0 0).toArray 127 (0, 0)) := by
  have e : qje (newP dp dc w.heap.size w1.heap.size w2.heap.size w3.heap.size w5.heap.size w6.heap.size w7.heap.size) 0 0 none 0 0 = [.pointer (some ⟨w3.heap.size, 0, none⟩), .pointer (some ⟨w2.heap.size + 1, 0, none⟩), .pointer (some ⟨w.heap.size + 1, 0, none⟩), .pointer (some ⟨w1.heap.size + 1, 0, none⟩), .pointer (some ⟨w4.heap.size, 0, none⟩), .pointer (some ⟨w5.heap.size, 0, none⟩), .pointer (some ⟨w6.heap.size, 0, none⟩), .pointer (some ⟨w7.heap.size, 0, none⟩), .int .u64 0, .int .u64 0, .slice none 0 0] := by rw [s4]; rfl
  rw [e, ← hw9]; exact qaq _ _
 have b8 : Below w8.heap.size w8 w9 := by rw [← hw9]; exact (Below.refl _ _).alloc (Nat.le_refl _) _
 have b7 := HB8.out.trans (b8.mono HB8.out.size); have b6 := HB7.out.trans (b7.mono HB7.out.size); have b5 := HB6.out.trans (b6.mono HB6.out.size); have b4 := HB5.out.trans (b5.mono HB5.out.size); have b3 := HB4.out.trans (b4.mono HB4.out.size); have b2 := HB3.out.trans (b3.mono HB3.out.size); have b1 := HB2.out.trans (b2.mono HB2.out.size); have b0 := HB1.out.trans (b1.mono HB1.out.size); have l1 := qa0 HRD.out.box; have l2 := qa0 HCK.out.box; have l3 := qa0 HPL.out.box; have l4 := qa0 HBG.out.box; have l5 := HTB.out.lt; have l6 := HOD.out.lt; have l7 := qa0 HFF.out.box; have l8 := qa0 R9; have HT : qbk (fun j => w5.heap.size ≤ j ∧ j < w6.heap.size) w6 w5.heap.size (fun i => w5.heap.size + 1 + i) (fun _ => []) := ⟨HTB.out.box, HTB.out.map, HTB.out.inj, HTB.out.bkt, ⟨Nat.le_refl _, l5⟩, fun i hi => ⟨by omega, (HTB.out.map i hi).lt⟩⟩; have HBG1 := HBG.out; have hbp : w4.heap.size = w3.heap.size + 1 := s4; refine ⟨w1.heap.size, w2.heap.size, w3.heap.size, w5.heap.size, w6.heap.size, w7.heap.size, w8.heap.size, rfl, ⟨⟨l1, l2, l3, by omega, l5, l6, l7, l8⟩, (HRD.out.zero).only (Only.of_below (F := fun _ => False) b1) (fun h => h) (fun h => h), (HCK.out.zero).only (Only.of_below (F := fun _ => False) b2) (fun h => h) (fun h => h), (HPL.out.zero).only (Only.of_below (F := fun _ => False) b3) (fun h => h) (fun h => h), ?_, HT.below b6, HOD.out.below b7, (HFF.out.zero).only (Only.of_below (F := fun _ => False) b8) (fun h => h) (fun _ _ h => h), R9⟩, qac b4 (by omega) HRV.out, b0⟩; rw [← hbp]; exact (HBG1.zero).only (Only.of_below (F := fun _ => False) b5) (fun h => h) (fun _ _ h => h)
def qxr (n th : Nat) (w : World) (e : Ending) (w' : World) : Prop := ∃ a P g, e = .returned (.tuple #[.pointer (some ⟨a, 0, none⟩), .int .i64 0]) ∧ qa6 g w' a P (newM n th) ∧ Below w.heap.size w w' ∧ w.heap.size ≤ a ∧ ∀ b, b < w.heap.size → g b = 0
theorem qtz (n th : Nat) (w : World) (h1 : 18 ≤ n) (h2 : n ≤ 250) (t1 : 1 ≤ th) (t2 : th ≤ 4) : Calls prog 31 #[.int .i64 (n : Int), .int .i64 (th : Int)] w (qxr n th w) := by
 go_enter func31, ntmps31; go_wp2_with fail; refine (qqp n w (by omega) (by omega)).mono ?_; rintro e w1 ⟨rfl, hd, hb1⟩; have HD := hid hd; have HB1 := hid hb1; clear hd hb1; go_wp2_with fail; refine (qw2 n th _ _ _ w1 HD.out h1 h2 t1 t2).mono ?_; rintro e w2 ⟨s1, s2, s3, s5, s6, s7, s8, rfl, hm, hv, hb2⟩; have HM := hid hm; have HB2 := hid hb2; have hd2 := HD.out.of_old hb2; have l1 := HD.out.lt; obtain ⟨q1, q2, q3, q4, q5, q6, q7, q8⟩ := hm.le; have TF := hid (qkd n w2 0 s3 (w.heap.size + 1) w.heap.size hv (Nat.zero_le _) (Nat.zero_le _) (by omega) (by omega) hd2.zero (by omega) (by omega)); have k0 : w2.cell? ⟨s8, 0, none⟩ = some (.pointer (some ⟨s3, 0, none⟩)) := cell_of_row w2 s8 0 _ _ _ hm.box; have HL := hid (show s3 < s8 ∧ s8 < w2.heap.size ∧ w1.heap.size ≤ s3 by omega); have HL1 := hid l1; clear hm hv hb2 hd2 l1 q1 q2 q3 q4 q5 q6 q7; go_wp2_with fail; refine TF.out.mono ?_; rintro e w3 ⟨rfl, hk, hdv, hb3, ho⟩; have HK := hid hk; have HDV := hid hdv; have HB3 := hid hb3; have HO := hid ho; clear hk hdv hb3 ho TF; go_wp2_with fail; go_ret2; have ho3 : Only (fun j => j = s3 ∨ j = w.heap.size + 1 ∨ j = w.heap.size) w2 w3 := ⟨HB3.out.os, HB3.out.tape, HB3.out.output, HB3.out.size, fun j hj hn => HO.out j hj (fun e => hn (.inl e)) (fun e => hn (.inr (.inl e))) (fun e => hn (.inr (.inr e)))⟩; have hl := HL.out; have hl1 := HL1.out; have hm3 := HM.out.only ho3 (fun j hj hne _ hF => by omega); refine ⟨s8, _, _, rfl, hm3.arena HK.out HDV.out hl1.1 hl1.2, ?_, by have := HB1.out.size; omega, fun b hb => ?_⟩
 · have hb12 := HB1.out.trans (HB2.out.mono HB1.out.size)
   exact ⟨HB3.out.os.trans hb12.os, HB3.out.tape.trans hb12.tape, HB3.out.output.trans hb12.output, Nat.le_trans hb12.size HB3.out.size, fun j hj => (HO.out j (Nat.lt_of_lt_of_le hj hb12.size) (by omega) (by omega) (by omega)).trans (hb12.block j hj)⟩
 · show newG _ _ _ _ _ _ _ _ _ _ b = 0
   unfold newG; rw [if_neg (by omega), if_pos (by have := HB1.out.size; omega)]
end
section
open Go.RowKit
def qi7 (c : qa7) : Prop := c.key.size ≤ 1000 ∧ c.val.size ≤ 1000
def qdc (L : Nat) (line : Int) (cls piece : Int) : Prop := ∃ n p : Nat, line = (n : Int) ∧ piece = (p : Int) ∧ ¬ qa9 cls = 0 ∧ p < qa9 cls ∧ n + qa9 cls ≤ L
structure FrOK (L : Nat) (f : qa5) (d : FrD) : Prop where
 ph : 0 ≤ f.phase ∧ f.phase < 7
 kind : f.call.kind = 1 ∨ f.call.kind = 2 ∨ f.call.kind = 3 ∨ f.call.kind = 4 ∨ f.call.kind = 5 ∨ f.call.kind = 7
 call : qi7 f.call
 gr : d.gr.length ≤ 3 ∧ (∀ x ∈ d.gr, qi7 x) ∧ Flat d.gr
 g1 : f.call.kind = 7 → 1 ≤ d.gr.length
 enq : f.call.kind = 4 → ¬ f.phase = 1 ∧ ¬ f.phase = 2
 grp : f.call.kind = 7 → ¬ f.phase = 2 ∧ (f.phase = 1 ∨ f.phase = 3 ∨ f.phase = 4 → (∃ i : Nat, f.at' = (i : Int) ∧ i < d.gr.length) ∧ d.ps.length = d.gr.length) ∧ (f.phase = 5 → d.ps.length = d.gr.length)
 wr : f.phase = 4 → ¬ f.call.kind = 7 → qdc L f.line f.cls f.piece
 wrg : f.phase = 4 → f.call.kind = 7 → ∀ i : Nat, f.at' = (i : Int) → ∀ h : i < d.ps.length, qdc L d.ps[i].line d.ps[i].cls f.piece
 rd : f.phase = 2 → qdc L f.old.line f.old.cls f.piece ∧ (d.bs.length : Int) = 64 * f.piece
 bs : d.bs.length ≤ 512
 ps : d.ps.length ≤ 1000
 hs : d.hs.length ≤ 1000
theorem qyn (c : Int) : qa9 c ≤ 8 := by unfold qa9; repeat (first | split | omega)
theorem FrOK.fit {L : Nat} {f : qa5} {d : FrD} (h : FrOK L f d) : quy d := ⟨⟨by have := h.gr.1; omega, h.gr.2.2⟩, by have := h.bs; omega, by have := h.ps; omega, by have := h.hs; omega⟩
theorem FrOK.same {L : Nat} {f f1 : qa5} {d d1 : FrD} (h : FrOK L f d) (hs : qdm f d f1 d1) : FrOK L f1 d1 := by
 obtain ⟨y, bA, bc, pA, pc, hA, hc, he, hy⟩ := hs.eq; have hgl := hs.gr.1; have e0 : f1.call = y := by rw [he]; rfl
 have e1 : f1.phase = f.phase := by rw [he]; rfl
 have e2 : f1.at' = f.at' := by rw [he]; rfl
 have e3 : f1.line = f.line := by rw [he]; rfl
 have e4 : f1.cls = f.cls := by rw [he]; rfl
 have e5 : f1.piece = f.piece := by rw [he]; rfl
 have e6 : f1.old = f.old := by rw [he]; rfl
 have ek : f1.call.kind = f.call.kind := by rw [e0]; exact hy.kind
 refine ⟨by rw [e1]; exact h.ph, by rw [ek]; exact h.kind, ?_, ⟨by rw [hgl]; exact h.gr.1, ?_, h.gr.2.2.sims hs.gr⟩, ?_, ?_, ?_, ?_, ?_, ?_, by rw [hs.bs]; exact h.bs, by rw [hs.ps]; exact h.ps, by rw [hs.hs]; exact h.hs⟩
 · rw [e0]; exact ⟨by rw [hy.key]; exact h.call.1, by rw [hy.val]; exact h.call.2⟩
 · intro x hx
   obtain ⟨i, hi, rfl⟩ := List.getElem_of_mem hx; have hi' : i < d.gr.length := by omega
   have hc := (hs.gr.2 i hi hi').1; have h0 := h.gr.2.1 d.gr[i] (List.getElem_mem hi'); exact ⟨by rw [hc.key]; exact h0.1, by rw [hc.val]; exact h0.2⟩
 · rw [ek, hgl]; exact h.g1
 · rw [ek, e1]; exact h.enq
 · rw [ek, e1, e2, hs.ps, hgl]; exact h.grp
 · rw [ek, e1, e3, e4, e5]; exact h.wr
 · rw [ek, e1, e2, e5]
   intro a b i hi hp; have hp' : i < d.ps.length := by rw [← hs.ps]; exact hp
   have := h.wrg a b i hi hp'; simpa only [hs.ps] using this
 · rw [e1, e6, e5, hs.bs]; exact h.rd
structure OkR (M : qa4) (n th : Nat) (f1 : qa5) (d1 : FrD) (M' : qa4) (f' : qa5) (d' : FrD) : Prop where
 ok : OkA M' (n + 3) th
 len : M'.D.length = M.D.length
 now : M'.now = M.now ∧ M'.dur = M.dur
 call : f'.call = f1.call ∧ d'.gr = d1.gr
 hs : d'.hs.length ≤ 1000
 fr : f'.phase = 7 ∨ FrOK M.D.length f' d'
theorem OkA.upd {M : qa4} {n th : Nat} (h : OkA M n th) {D' : List qab} {S' : List qan} {H' : List Nat} (hD : D'.length = M.D.length) (hS : S'.length = M.S.length) (hH : H'.length = M.H.length) : OkA { M with D := D', S := S', H := H' } n th :=
 ⟨⟨h.few.t, h.few.q, h.few.qn, h.few.o, h.few.e, h.few.b⟩, h.rise, h.id, h.ver, by show 2 + 8 * S'.length ≤ D'.length; rw [hD, hS]; exact h.slabs, by show ∀ i, i < 8 → ∀ x ∈ M.T i, OkL D'.length x; rw [hD]; exact h.lt, by show ∀ x ∈ M.Q, OkL D'.length x; rw [hD]; exact h.lq, ⟨by show H'.length = th; rw [hH]; exact h.th.1, h.th.2⟩⟩
section
variable {M M' : qa4} {n th t : Nat} {f f' : qa5} {d d' : FrD}
theorem OkA.setH (h : OkA M n th) {H' : List Nat} (hH : H'.length = M.H.length) : OkA { M with H := H' } n th := h.upd (D' := M.D) (S' := M.S) rfl rfl hH
theorem OkA.setS (h : OkA M n th) {S' : List qan} (hS : S'.length = M.S.length) : OkA { M with S := S' } n th := h.upd (D' := M.D) (H' := M.H) rfl hS rfl
theorem OkA.setD (h : OkA M n th) {D' : List qab} (hD : D'.length = M.D.length) : OkA { M with D := D' } n th := h.upd (S' := M.S) (H' := M.H) hD rfl rfl
theorem qh0 (M : qa4) (c : qa7) (k : Int) (n p : Nat) : (wrD M c k n p).length = M.D.length := by
 unfold wrD; split
 · rw [List.length_set]
 · rfl
theorem FrOK.six (h : FrOK M.D.length f d) (hc : f'.call = f.call) (hg : d'.gr = d.gr) (hp : f'.phase = 6) (hb : d'.bs.length ≤ 512) (hps : d'.ps.length ≤ 1000) (hhs : d'.hs.length ≤ 1000) : FrOK M.D.length f' d' := by
 refine ⟨by rw [hp]; decide, by rw [hc]; exact h.kind, by rw [hc]; exact h.call, by rw [hg]; exact h.gr, by rw [hc, hg]; exact h.g1, fun _ => by rw [hp]; decide, fun _ => ⟨by rw [hp]; decide, fun e => ?_, fun e => ?_⟩, fun e => ?_, fun e => ?_, fun e => ?_, hb, hps, hhs⟩
 · rw [hp] at e; exact absurd e (by decide)
 · rw [hp] at e; exact absurd e (by decide)
 · rw [hp] at e; exact absurd e (by decide)
 · rw [hp] at e; exact absurd e (by decide)
 · rw [hp] at e; exact absurd e (by decide)
theorem FrOK.one (h : FrOK M.D.length f d) (hc : f'.call = f.call) (hg : d'.gr = d.gr) (hp : f'.phase = 1) (hk : ¬ f.call.kind = 4) (hG : f.call.kind = 7 → (∃ i : Nat, f'.at' = (i : Int) ∧ i < d.gr.length) ∧ d'.ps.length = d.gr.length) (hb : d'.bs.length ≤ 512) (hps : d'.ps.length ≤ 1000) (hhs : d'.hs.length ≤ 1000) : FrOK M.D.length f' d' := by
 refine ⟨by rw [hp]; decide, by rw [hc]; exact h.kind, by rw [hc]; exact h.call, by rw [hg]; exact h.gr, by rw [hc, hg]; exact h.g1, fun e => absurd (hc ▸ e) hk, fun e => ⟨by rw [hp]; decide, fun _ => ?_, fun e => ?_⟩, fun e => ?_, fun e => ?_, fun e => ?_, hb, hps, hhs⟩
 · rw [hg]; exact hG (hc ▸ e)
 · rw [hp] at e; exact absurd e (by decide)
 · rw [hp] at e; exact absurd e (by decide)
 · rw [hp] at e; exact absurd e (by decide)
 · rw [hp] at e; exact absurd e (by decide)
theorem FrOK.three (h : FrOK M.D.length f d) (hc : f'.call = f.call) (hg : d'.gr = d.gr) (hp : f'.phase = 3) (hG : f.call.kind = 7 → (∃ i : Nat, f'.at' = (i : Int) ∧ i < d.gr.length) ∧ d'.ps.length = d.gr.length) (hb : d'.bs.length ≤ 512) (hps : d'.ps.length ≤ 1000) (hhs : d'.hs.length ≤ 1000) : FrOK M.D.length f' d' := by
 refine ⟨by rw [hp]; decide, by rw [hc]; exact h.kind, by rw [hc]; exact h.call, by rw [hg]; exact h.gr, by rw [hc, hg]; exact h.g1, fun _ => by rw [hp]; decide, fun e => ⟨by rw [hp]; decide, fun _ => ?_, fun e => ?_⟩, fun e => ?_, fun e => ?_, fun e => ?_, hb, hps, hhs⟩
 · rw [hg]; exact hG (hc ▸ e)
 · rw [hp] at e; exact absurd e (by decide)
 · rw [hp] at e; exact absurd e (by decide)
 · rw [hp] at e; exact absurd e (by decide)
 · rw [hp] at e; exact absurd e (by decide)
theorem FrOK.five (h : FrOK M.D.length f d) (hc : f'.call = f.call) (hg : d'.gr = d.gr) (hp : f'.phase = 5) (hG : f.call.kind = 7 → d'.ps.length = d.gr.length) (hb : d'.bs.length ≤ 512) (hps : d'.ps.length ≤ 1000) (hhs : d'.hs.length ≤ 1000) : FrOK M.D.length f' d' := by
 refine ⟨by rw [hp]; decide, by rw [hc]; exact h.kind, by rw [hc]; exact h.call, by rw [hg]; exact h.gr, by rw [hc, hg]; exact h.g1, fun _ => by rw [hp]; decide, fun e => ⟨by rw [hp]; decide, fun e => ?_, fun _ => ?_⟩, fun e => ?_, fun e => ?_, fun e => ?_, hb, hps, hhs⟩
 · rw [hp] at e; exact absurd e (by decide)
 · rw [hg]; exact hG (hc ▸ e)
 · rw [hp] at e; exact absurd e (by decide)
 · rw [hp] at e; exact absurd e (by decide)
 · rw [hp] at e; exact absurd e (by decide)
theorem FrOK.two (h : FrOK M.D.length f d) (hc : f'.call = f.call) (hg : d'.gr = d.gr) (hp : f'.phase = 2) (hk : ¬ f.call.kind = 4) (hk7 : ¬ f.call.kind = 7) (hr : qdc M.D.length f'.old.line f'.old.cls f'.piece ∧ (d'.bs.length : Int) = 64 * f'.piece) (hb : d'.bs.length ≤ 512) (hps : d'.ps.length ≤ 1000) (hhs : d'.hs.length ≤ 1000) : FrOK M.D.length f' d' := by
 refine ⟨by rw [hp]; decide, by rw [hc]; exact h.kind, by rw [hc]; exact h.call, by rw [hg]; exact h.gr, by rw [hc, hg]; exact h.g1, fun e => absurd (hc ▸ e) hk, fun e => absurd (hc ▸ e) hk7, fun e => ?_, fun e => ?_, fun _ => hr, hb, hps, hhs⟩
 · rw [hp] at e; exact absurd e (by decide)
 · rw [hp] at e; exact absurd e (by decide)
theorem FrOK.four (h : FrOK M.D.length f d) (hc : f'.call = f.call) (hg : d'.gr = d.gr) (hp : f'.phase = 4) (hw : ¬ f.call.kind = 7 → qdc M.D.length f'.line f'.cls f'.piece) (hG : f.call.kind = 7 → (∃ i : Nat, f'.at' = (i : Int) ∧ i < d.gr.length) ∧ d'.ps.length = d.gr.length) (hwg : f.call.kind = 7 → ∀ i : Nat, f'.at' = (i : Int) → ∀ h : i < d'.ps.length, qdc M.D.length d'.ps[i].line d'.ps[i].cls f'.piece) (hb : d'.bs.length ≤ 512) (hps : d'.ps.length ≤ 1000) (hhs : d'.hs.length ≤ 1000) : FrOK M.D.length f' d' := by
 refine ⟨by rw [hp]; decide, by rw [hc]; exact h.kind, by rw [hc]; exact h.call, by rw [hg]; exact h.gr, by rw [hc, hg]; exact h.g1, fun _ => by rw [hp]; decide, fun e => ⟨by rw [hp]; decide, fun _ => ?_, fun e => ?_⟩, fun _ e => hw (hc ▸ e), fun _ e => hwg (hc ▸ e), fun e => ?_, hb, hps, hhs⟩
 · rw [hg]; exact hG (hc ▸ e)
 · rw [hp] at e; exact absurd e (by decide)
 · rw [hp] at e; exact absurd e (by decide)
theorem OkR.sameM (hok : OkA M n th) (hc : f'.call = f.call ∧ d'.gr = d.gr) (hh : d'.hs.length ≤ 1000) (hf : f'.phase = 7 ∨ FrOK M.D.length f' d') : OkR M n th f d M f' d' := ⟨hok.mono (by omega), rfl, ⟨rfl, rfl⟩, hc, hh, hf⟩
theorem OkR.setH (hok : OkA M n th) {H' : List Nat} (hH : H'.length = M.H.length) (hc : f'.call = f.call ∧ d'.gr = d.gr) (hh : d'.hs.length ≤ 1000) (hf : f'.phase = 7 ∨ FrOK M.D.length f' d') : OkR M n th f d { M with H := H' } f' d' := ⟨(hok.setH hH).mono (by omega), rfl, ⟨rfl, rfl⟩, hc, hh, hf⟩
theorem OkR.setS (hok : OkA M n th) {S' : List qan} (hS : S'.length = M.S.length) (hc : f'.call = f.call ∧ d'.gr = d.gr) (hh : d'.hs.length ≤ 1000) (hf : f'.phase = 7 ∨ FrOK M.D.length f' d') : OkR M n th f d { M with S := S' } f' d' := ⟨(hok.setS hS).mono (by omega), rfl, ⟨rfl, rfl⟩, hc, hh, hf⟩
theorem OkR.setD (hok : OkA M n th) {D' : List qab} (hD : D'.length = M.D.length) (hc : f'.call = f.call ∧ d'.gr = d.gr) (hh : d'.hs.length ≤ 1000) (hf : f'.phase = 7 ∨ FrOK M.D.length f' d') : OkR M n th f d { M with D := D' } f' d' := ⟨(hok.setD hD).mono (by omega), hD, ⟨rfl, rfl⟩, hc, hh, hf⟩
def qua (M : qa4) (t : Nat) (f : qa5) (d : FrD) (M' : qa4) (f' : qa5) (d' : FrD) : Prop := M' = { M with H := M.H.set t 0 } ∧ f' = { f with phase := 7 } ∧ d' = d
theorem qgs (hok : OkA M n th) (h : FrOK M.D.length f d) (hr : qua M t f d M' f' d') : OkR M n th f d M' f' d' := by
 obtain ⟨rfl, rfl, rfl⟩ := hr; exact .setH hok (by rw [List.length_set]) ⟨rfl, rfl⟩ h.hs (.inl rfl)
theorem qiv {h0 : Nat} (hok : OkA M n th) (h : FrOK M.D.length f d) (hk : ¬ f.call.kind = 4 ∧ ¬ f.call.kind = 7) (hr : qmk M t f d h0 (fun f => { f with phase := 1 }) M' f' d') : OkR M n th f d M' f' d' := by
 obtain ⟨rfl, (⟨_, rfl, rfl⟩ | ⟨_, _, rfl, rfl⟩ | ⟨_, _, rfl, rfl⟩)⟩ := hr
 · exact .sameM hok ⟨rfl, rfl⟩ h.hs (.inl rfl)
 · exact .sameM hok ⟨rfl, rfl⟩ h.hs (.inl rfl)
 · exact .setH hok (by rw [List.length_set]) ⟨rfl, rfl⟩ h.hs (.inr (h.one rfl rfl rfl hk.1 (fun e => absurd e hk.2) h.bs h.ps h.hs))
theorem qpq {h0 : Nat} (hok : OkA M n th) (h : FrOK M.D.length f d) (hk : f.call.kind = 4 ∨ f.call.kind = 5) (hr : qmk M t f d h0 (fun f => { f with phase := if f.call.kind = 5 then 1 else 3 }) M' f' d') : OkR M n th f d M' f' d' := by
 have hk7 : ¬ f.call.kind = 7 := by omega
 obtain ⟨rfl, (⟨_, rfl, rfl⟩ | ⟨_, _, rfl, rfl⟩ | ⟨_, _, rfl, rfl⟩)⟩ := hr
 · exact .sameM hok ⟨rfl, rfl⟩ h.hs (.inl rfl)
 · exact .sameM hok ⟨rfl, rfl⟩ h.hs (.inl rfl)
 · refine .setH hok (by rw [List.length_set]) ⟨rfl, rfl⟩ h.hs (.inr ?_)
   by_cases h5 : f.call.kind = 5
   · exact h.one rfl rfl (if_pos h5) (by omega) (fun e => absurd e hk7) h.bs h.ps h.hs
   · exact h.three rfl rfl (if_neg h5) (fun e => absurd e hk7) h.bs h.ps h.hs
theorem qqg {h0 : Nat} (hok : OkA M n th) (h : FrOK M.D.length f d) (hk : f.call.kind = 7) (hr : qyh M t f d h0 M' f' d') : OkR M n th f d M' f' d' := by
 rcases hr with ⟨rfl, _, rfl, rfl⟩ | ⟨rfl, _, _, rfl, rfl⟩ | ⟨rfl, _, _, rfl, A, c, rfl⟩
 · exact .sameM hok ⟨rfl, rfl⟩ h.hs (.inl rfl)
 · exact .sameM hok ⟨rfl, rfl⟩ h.hs (.inl rfl)
 · have hg := h.gr.1
   have h1 := h.g1 hk; exact .setH hok (by rw [List.length_set]) ⟨rfl, rfl⟩ h.hs (.inr (h.one rfl rfl rfl (by omega) (fun _ => ⟨⟨0, rfl, by omega⟩, by simp⟩) h.bs (by simp; omega) h.hs))
theorem qlg {L : Nat} {y : qa3} (h : OkL L y) : qdc L y.line y.cls 0 := by
 obtain ⟨_, _, h0, ⟨ln, h1, h2⟩, _⟩ := h; exact ⟨ln, 0, h1, rfl, h0, by omega, h2⟩
theorem qlz {f1 : qa5} (hok : OkA M n th) (h : FrOK M.D.length f d) (hk : f.call.kind = 1 ∨ f.call.kind = 2 ∨ f.call.kind = 3) (hc : f1.call = f.call) (hold : f1.had = true → OkL M.D.length f1.old) (hr : qv0 M f1 d M' f' d') : OkR M n th f d M' f' d' := by
 have hk7 : ¬ f.call.kind = 7 := by omega
 have hk4 : ¬ f.call.kind = 4 := by omega
 rcases hr with ⟨_, hh, rfl, rfl, rfl⟩ | ⟨_, _, rfl, rfl, rfl⟩ | ⟨_, _, _, ⟨S', hS, rfl⟩, rfl, rfl⟩ | ⟨_, _, _, rfl, rfl, rfl⟩ | ⟨_, _, _, rfl, rfl, rfl⟩ | ⟨_, _, _, rfl, rfl, rfl⟩
 · exact .sameM hok ⟨hc, rfl⟩ h.hs (.inr (h.two hc rfl rfl hk4 hk7 ⟨qlg (hold hh), rfl⟩ (Nat.zero_le _) h.ps h.hs))
 · exact .sameM hok ⟨hc, rfl⟩ h.hs (.inr (h.six hc rfl rfl h.bs h.ps h.hs))
 · exact .setS hok hS.len ⟨hc, rfl⟩ h.hs (.inr (h.six hc rfl rfl h.bs h.ps h.hs))
 · exact .sameM hok ⟨hc, rfl⟩ h.hs (.inr (h.six hc rfl rfl h.bs h.ps h.hs))
 · exact .sameM hok ⟨hc, rfl⟩ h.hs (.inr (h.three hc rfl rfl (fun e => absurd e hk7) h.bs h.ps h.hs))
 · exact .sameM hok ⟨hc, rfl⟩ h.hs (.inr (h.five hc rfl rfl (fun e => absurd e hk7) h.bs h.ps h.hs))
theorem qlb (hok : OkA M n th) (h : FrOK M.D.length f d) (hk : f.call.kind = 1 ∨ f.call.kind = 2 ∨ f.call.kind = 3) (hr : FdR M f d M' f' d') : OkR M n th f d M' f' d' := by
 obtain ⟨r, hn, (⟨y, rfl, _, rfl, rfl, rfl⟩ | ⟨_, hg⟩)⟩ := hr
 · refine .sameM hok ⟨rfl, rfl⟩ h.hs (.inr ⟨h.ph, h.kind, h.call, h.gr, h.g1, h.enq, h.grp, h.wr, h.wrg, h.rd, h.bs, h.ps, h.hs⟩)
 · cases hb : hitB f r with
   | false =>
    rw [qj3 hb] at hg; exact qlz (f1 := { f with had := false, old := qak }) hok h hk rfl (fun hh => by cases hh) hg
   | true =>
    rw [qlp hb] at hg; cases r with
    | none => cases hb
    | some y => exact qlz (f1 := { f with had := true, old := y }) hok h hk rfl (fun _ => hok.lt _ (qb6 f.call.key) y hn.1) hg
theorem qq7 {S : List qan} {c : Int} {i k : Nat} (hi : i < S.length) (h0 : ¬ qa9 c = 0) (hf : quz S c i k true) {L : Nat} (hL : 2 + 8 * S.length ≤ L) : qdc L ((2 + i * 8 + k * qa9 c : Nat) : Int) c 0 := by
 obtain ⟨_, hk, hcs⟩ := hf.1 rfl; refine ⟨_, 0, rfl, rfl, h0, by omega, ?_⟩; have hk2 : k < 8 / qa9 c := by
  rcases hcs with ⟨_, h, _⟩ | ⟨_, rfl, _⟩
  · exact h
  · have := qyn c
    exact Nat.div_pos this (by omega)
 have h8 : (k + 1) * qa9 c ≤ 8 := Nat.le_trans (Nat.mul_le_mul_right _ hk2) (Nat.div_mul_le_self 8 (qa9 c)); rw [Nat.add_mul] at h8; omega
theorem qfm {c ln code : Int} {M1 : qa4} (hok : OkA M n th) (hr : qi2 M c ln code M1) : OkA M1 n th ∧ M1.D.length = M.D.length ∧ M1.now = M.now ∧ M1.dur = M.dur ∧ M1.S.length = M.S.length ∧ (code = 0 → qdc M.D.length ln c 0) := by
 rcases hr with ⟨_, _, rfl, rfl⟩ | ⟨_, _, rfl, rfl, _⟩ | ⟨i, k, hi, h0, hf, rfl, rfl, rfl⟩
 · exact ⟨hok, rfl, rfl, rfl, rfl, fun e => by cases e⟩
 · exact ⟨hok, rfl, rfl, rfl, rfl, fun e => by cases e⟩
 · exact ⟨hok.setS (by rw [List.length_set]), rfl, rfl, rfl, by rw [List.length_set], fun _ => qq7 hi h0 hf hok.slabs⟩
theorem OkR.of (hok : OkA M' n th) (hl : M'.D.length = M.D.length) (hn : M'.now = M.now ∧ M'.dur = M.dur) (hc : f'.call = f.call ∧ d'.gr = d.gr) (hh : d'.hs.length ≤ 1000) (hf : f'.phase = 7 ∨ FrOK M.D.length f' d') : OkR M n th f d M' f' d' := ⟨hok.mono (by omega), hl, hn, hc, hh, hf⟩
theorem ql6 (hok : OkA M n th) (h : FrOK M.D.length f d) (hk7 : ¬ f.call.kind = 7) (hr : TkR M f d M' f' d') : OkR M n th f d M' f' d' := by
 obtain ⟨rfl, ln, code, ht, (⟨_, rfl⟩ | ⟨h0, rfl⟩)⟩ := hr
 · obtain ⟨q1, q2, q3, q4, q5, q6⟩ := qfm hok ht
   exact .of q1 q2 ⟨q3, q4⟩ ⟨rfl, rfl⟩ h.hs (.inr (h.six rfl rfl rfl h.bs h.ps h.hs))
 · obtain ⟨q1, q2, q3, q4, q5, q6⟩ := qfm hok ht
   exact .of q1 q2 ⟨q3, q4⟩ ⟨rfl, rfl⟩ h.hs (.inr (h.four rfl rfl rfl (fun _ => q6 h0) (fun e => absurd e hk7) (fun e => absurd e hk7) h.bs h.ps h.hs))
theorem qri (hok : OkA M n th) (h : FrOK M.D.length f d) (hk7 : ¬ f.call.kind = 7) (hr : TkT M f d M' f' d') : OkR M n th f d M' f' d' := by
 obtain ⟨rfl, ln, code, ht, (⟨_, rfl⟩ | ⟨h0, rfl⟩)⟩ := hr
 · obtain ⟨q1, q2, q3, q4, q5, q6⟩ := qfm hok ht
   exact .of q1 q2 ⟨q3, q4⟩ ⟨rfl, rfl⟩ h.hs (.inr (h.six rfl rfl rfl h.bs h.ps h.hs))
 · obtain ⟨q1, q2, q3, q4, q5, q6⟩ := qfm hok ht
   exact .of q1 q2 ⟨q3, q4⟩ ⟨rfl, rfl⟩ h.hs (.inr (h.four rfl rfl rfl (fun _ => q6 h0) (fun e => absurd e hk7) (fun e => absurd e hk7) h.bs h.ps h.hs))
theorem qyj {nn p : Nat} (hok : OkA M n th) (h : FrOK M.D.length f d) (hp4 : f.phase = 4) (hk7 : ¬ f.call.kind = 7) (hpc : f.piece = (p : Int)) (hp : p < qa9 f.cls) (hr : WrR M f d nn p M' f' d') : OkR M n th f d M' f' d' := by
 obtain ⟨rfl, rfl, (⟨_, rfl⟩ | ⟨hne, rfl⟩)⟩ := hr
 · exact .setD hok (qh0 _ _ _ _ _) ⟨rfl, rfl⟩ h.hs (.inr (h.five rfl rfl rfl (fun e => absurd e hk7) h.bs h.ps h.hs))
 · refine .setD hok (qh0 _ _ _ _ _) ⟨rfl, rfl⟩ h.hs (.inr (h.four rfl rfl hp4 (fun _ => ?_) (fun e => absurd e hk7) (fun e => absurd e hk7) h.bs h.ps h.hs))
   obtain ⟨a, b, e1, e2, e3, e4, e5⟩ := h.wr hp4 hk7; exact ⟨a, p + 1, e1, rfl, e3, by show p + 1 < qa9 f.cls; omega, e5⟩
theorem ql7 {now : List UInt8} {pc : Nat} (hok : OkA M n th) (h : FrOK M.D.length f d) (hp2 : f.phase = 2) (hk4 : ¬ f.call.kind = 4) (hk7 : ¬ f.call.kind = 7) (hpc : f.piece = (pc : Int)) (hnow : now.length = 64) (hr : RdR M f d now pc M' f' d') : OkR M n th f d M' f' d' := by
 obtain ⟨⟨a, b, e1, e2, e3, e4, e5⟩, hbs⟩ := h.rd hp2; have h8 := qyn f.old.cls; obtain ⟨rfl, (⟨hne, A', c', rfl, rfl⟩ | ⟨_, rfl, (⟨_, rfl⟩ | ⟨_, rfl⟩)⟩)⟩ := hr
 · have hl : (d.bs ++ now).length = d.bs.length + 64 := by rw [List.length_append, hnow]
   refine .sameM hok ⟨rfl, rfl⟩ h.hs (.inr (h.two rfl rfl hp2 hk4 hk7 ⟨⟨a, pc + 1, e1, rfl, e3, ?_, e5⟩, ?_⟩ ?_ h.ps h.hs))
   · show pc + 1 < qa9 f.old.cls
     omega
   · show ((d.bs ++ now).length : Int) = 64 * ((pc + 1 : Nat) : Int)
     rw [hl]; omega
   · show (d.bs ++ now).length ≤ 512
     rw [hl]; omega
 · exact .sameM hok ⟨rfl, rfl⟩ h.hs (.inr (h.six rfl rfl rfl (Nat.zero_le _) h.ps h.hs))
 · exact .sameM hok ⟨rfl, rfl⟩ h.hs (.inr (h.six rfl rfl rfl (Nat.zero_le _) h.ps h.hs))
theorem qs3 {e : Nat} {l : List ChgC} {code : Int} {M1 : qa4} (hok : OkA M n th) (hn : n ≤ 40000) (ht : t < th) (hsz : ∀ x ∈ l, x.key.size ≤ 1000000) (hr : PubR M e l code M1) : OkA M1 (n + 3) th ∧ M1.D.length = M.D.length ∧ M1.now = M.now ∧ M1.dur = M.dur ∧ M1.S.length = M.S.length := by
 rcases hr with ⟨_, rfl, _⟩ | ⟨_, h1, h2, h3, h4, h5, gr, h6⟩
 · exact ⟨hok.mono (by omega), rfl, rfl, rfl, rfl⟩
 · have h := (qm7 hok (by have := h1.2.1; omega) ht h1 h3 h4 h5 hsz h6 [] (by simp)).1
   exact ⟨h.ok.mono (by have := h1.2.1; omega), h.d, h.now.1, h.now.2, by rw [h.s]⟩
theorem OkR.of3 (hok : OkA M' (n + 3) th) (hl : M'.D.length = M.D.length) (hn : M'.now = M.now ∧ M'.dur = M.dur) (hc : f'.call = f.call ∧ d'.gr = d.gr) (hh : d'.hs.length ≤ 1000) (hf : f'.phase = 7 ∨ FrOK M.D.length f' d') : OkR M n th f d M' f' d' := ⟨hok, hl, hn, hc, hh, hf⟩
theorem qon (hok : OkA M n th) (hn : n ≤ 40000) (ht : t < th) (h : FrOK M.D.length f d) (hk4 : ¬ f.call.kind = 4) (hk7 : ¬ f.call.kind = 7) (hr : qu9 M f d M' f' d') : OkR M n th f d M' f' d' := by
 obtain ⟨rfl, code, M1, hp, (⟨_, rfl, rfl⟩ | ⟨_, rfl, rfl⟩ | ⟨_, _, ⟨S', hS, rfl⟩, rfl⟩)⟩ := hr; all_goals obtain ⟨q1, q2, q3, q4, q5⟩ := qs3 hok hn ht (fun x hx => by rw [List.mem_singleton.1 hx]; exact Nat.le_trans h.call.1 (by decide)) hp
 · exact .of3 q1 q2 ⟨q3, q4⟩ ⟨rfl, rfl⟩ h.hs (.inr (h.six rfl rfl rfl h.bs h.ps h.hs))
 · exact .of3 q1 q2 ⟨q3, q4⟩ ⟨rfl, rfl⟩ h.hs (.inr (h.one rfl rfl rfl hk4 (fun e => absurd e hk7) h.bs h.ps h.hs))
 · exact .of3 (q1.setS hS.len) q2 ⟨q3, q4⟩ ⟨rfl, rfl⟩ h.hs (.inr (h.six rfl rfl rfl h.bs h.ps h.hs))
theorem qv9 (hok : OkA M n th) (hn : n ≤ 40000) (ht : t < th) (h : FrOK M.D.length f d) (hp5 : f.phase = 5) (hk : f.call.kind = 4 ∨ f.call.kind = 5) (hr : qyb M f d M' f' d') : OkR M n th f d M' f' d' := by
 have hk7 : ¬ f.call.kind = 7 := by omega
 obtain ⟨rfl, code, M1, hp, (⟨_, rfl, rfl⟩ | ⟨_, rfl, rfl⟩ | ⟨_, _, ⟨S', hS, rfl⟩, rfl⟩)⟩ := hr; all_goals obtain ⟨q1, q2, q3, q4, q5⟩ := qs3 hok hn ht (fun x hx => by rw [List.mem_singleton.1 hx]; exact Nat.zero_le _) hp
 · exact .of3 q1 q2 ⟨q3, q4⟩ ⟨rfl, rfl⟩ h.hs (.inr (h.six rfl rfl rfl h.bs h.ps h.hs))
 · by_cases h5 : f.call.kind = 5
   · rw [if_pos h5]
     exact .of3 q1 q2 ⟨q3, q4⟩ ⟨rfl, rfl⟩ h.hs (.inr (h.one rfl rfl rfl (by omega) (fun e => absurd e hk7) h.bs h.ps h.hs))
   · rw [if_neg h5]
     exact .of3 q1 q2 ⟨q3, q4⟩ ⟨rfl, rfl⟩ h.hs (.inr (h.five rfl rfl hp5 (fun e => absurd e hk7) h.bs h.ps h.hs))
 · exact .of3 (q1.setS hS.len) q2 ⟨q3, q4⟩ ⟨rfl, rfl⟩ h.hs (.inr (h.six rfl rfl rfl h.bs h.ps h.hs))
end
end
end Go.Proofs.YtecikkjbnkhhkaaGreat
