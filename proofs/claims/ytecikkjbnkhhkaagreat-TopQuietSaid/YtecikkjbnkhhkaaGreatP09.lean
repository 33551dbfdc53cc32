/- A part of the walk. -/
import Derived.Test.YtecikkjbnkhhkaaGreatP04
import Derived.Test.YtecikkjbnkhhkaaGreatP03
import Derived.Test.YtecikkjbnkhhkaaGreatP06
namespace Go.Proofs.YtecikkjbnkhhkaaGreat
open _root_.Go.Proofs.Tryz
set_option maxHeartbeats 4000000
set_option maxRecDepth 100000
section
open Go.RowKit
theorem Arr.num1 {w : World} {B : Nat} {A : Option Addr} {l : List Nat} (h : Arr numE 1 w B A l) {i : Nat} (hi : i < l.length) : ∃ b off, A = some ⟨b, off, none⟩ ∧ b < B ∧ w.cell? ⟨b, off + i, none⟩ = some (.int .i64 (l[i] : Int)) := by
 rcases h with rfl | ⟨b, off, rfl, hB, hc⟩
 · simp at hi
 · exact ⟨b, off, rfl, hB, by simpa using hc i hi 0 _ rfl⟩
def qxs (l : List Nat) (x : Int) (w : World) (e : Ending) (w' : World) : Prop := w' = w ∧ ∃ r : Int, e = .returned (.int .i64 r) ∧ ((r = -1 ∧ ∀ j (h : j < l.length), ¬ x = (l[j] : Int)) ∨ ∃ k, ∃ h : k < l.length, r = k ∧ x = (l[k] : Int))
theorem qsv (l : List Nat) (x : Int) (A : Option Addr) (c : Nat) (w : World) (hA : Arr numE 1 w w.heap.size A l) (hc : l.length ≤ c) (hm : c ≤ 9223372036854775807) : Calls prog 152 #[.slice A l.length c, .int .i64 x] w (qxs l x w) := by
 have HA := hid hA; clear hA; go_enter func152, ntmps152; go_wp2_with fail; go_loopw [5, 8] (fun _ v8 wr => ∃ k : Nat, k ≤ l.length ∧ v8 = .int .i64 k ∧ wr = w ∧ ∀ j (h : j < l.length), j < k → ¬ x = (l[j] : Int)) (fun _ v8 _ => l.length - (intOf v8).toNat)
 case atStart => exact ⟨0, by omega, rfl, rfl, fun j _ hj => absurd hj (by omega)⟩
 case round =>
  obtain ⟨k, hk, rfl, rfl, hall⟩ := hrel; have HALL := hid hall; clear hall; by_cases hlt : k < l.length
  · have hlti : (k : Int) < (l.length : Int) := by omega
    obtain ⟨b, off, rfl, hB, c0⟩ := HA.out.num1 hlt; by_cases hx : x = (l[k] : Int)
    · have hxe : (x == (l[k] : Int)) = true := by rw [beq_iff_eq]; exact hx
      have HX := hid hx; clear hx; go_wp2_with fail; go_ret; exact ⟨rfl, _, rfl, .inr ⟨k, hlt, rfl, HX.out⟩⟩
    · have hxe : (x == (l[k] : Int)) = false := by rw [beq_eq_false_iff_ne]; exact hx
      have HX := hid hx; clear hx; go_wp2_with fail; exact ⟨⟨k + 1, by omega, by go_num, trivial, fun j hj hjk => by
       rcases (by omega : j < k ∨ j = k) with h1 | rfl
       · exact HALL.out j hj h1
       · exact HX.out⟩, by simp [intOf]; omega⟩
  · obtain rfl : k = l.length := by omega
    go_wp2_with fail; go_ret; exact ⟨rfl, _, rfl, .inl ⟨rfl, fun j hj => HALL.out j hj hj⟩⟩
end
section
open Go.RowKit
structure RdAt (w : World) (lo p rc now : Nat) (H : List Nat) : Prop where
 box : w.heap[p]? = some (.cells #[.int .u64 (now : Int), .slice (some ⟨rc, 0, none⟩) H.length H.length] 216 (0, 0))
 rows : w.heap[rc]? = some (.cells (H.map fun n : Nat => Value.int .u64 (n : Int)).toArray 125 (0, 0))
 lo : lo ≤ p ∧ lo ≤ rc ∧ p ≠ rc
 len : 1 ≤ H.length ∧ H.length ≤ 4
 now1 : 1 ≤ now ∧ now < 9223372036854775808
theorem RdAt.cell {w : World} {lo p rc now : Nat} {H : List Nat} (h : RdAt w lo p rc now H) {t : Nat} (ht : t < H.length) : w.cell? ⟨rc, t, none⟩ = some (.int .u64 (H[t] : Int)) ∧ w.frozen? ⟨rc, t, none⟩ = false ∧ rc < w.heap.size := by
 refine ⟨?_, frozen_of_row w rc t _ _ h.rows, qa0 h.rows⟩; rw [cell_of_row w rc t _ _ _ h.rows, List.getElem?_toArray, List.getElem?_map, List.getElem?_eq_getElem ht]; rfl
theorem RdAt.set {w : World} {lo p rc now : Nat} {H : List Nat} (h : RdAt w lo p rc now H) {t : Nat} (_ht : t < H.length) (v : Nat) : RdAt (w.setCell ⟨rc, t, none⟩ (.int .u64 (v : Int))) lo p rc now (H.set t v) := by
 refine ⟨by rw [List.length_set]; exact (Below.heap_setCell _ _ _ _ h.lo.2.2).trans h.box, ?_, h.lo, by rw [List.length_set]; exact h.len, h.now1⟩; have := heap_setCell_same w rc t _ _ (.int .u64 (v : Int)) h.rows; rw [this, List.map_set, List.setIfInBounds_toArray]
theorem qjv (w : World) (lo p rc now : Nat) (H : List Nat) (h : RdAt w lo p rc now H) : Calls prog 272 #[.pointer (some ⟨p, 0, none⟩)] w fun e w' => e = .returned (.int .u64 (now : Int)) ∧ w' = w := by
 have hp := qa0 h.box; have p0 := cell_of_row w p 0 _ _ _ h.box; have T := hid (qe7 p 0 (now : Int) w p0 hp); clear h p0; go_enter func272, ntmps272; go_wp2_with fail; refine T.out.mono ?_; rintro e w1 ⟨rfl, rfl⟩; go_wp2_with fail; go_ret; exact ⟨rfl, rfl⟩
theorem qfl (w : World) (lo p rc now : Nat) (H : List Nat) (h : RdAt w lo p rc now H) (t : Nat) (ht : t < H.length) : Calls prog 332 #[.pointer (some ⟨p, 0, none⟩), .int .i64 (t : Int)] w fun e w' => e = .returned (.pointer (some ⟨rc, t, none⟩)) ∧ w' = w := by
 have hp := qa0 h.box; have p1 := cell_of_row w p 1 _ _ _ h.box; have hrc := qa0 h.rows; have hti : (t : Int) < (H.length : Int) := by omega
 have ht0 : ¬ (t : Int) < 0 := by omega
 clear h; go_enter func332, ntmps332; go_wp2_with fail; go_ret; exact ⟨rfl, rfl⟩
theorem qtf (w : World) (lo p rc now : Nat) (H : List Nat) (h : RdAt w lo p rc now H) (t : Nat) (ht : t < H.length) (h0 : H[t] = 0) : Calls prog 296 #[.pointer (some ⟨p, 0, none⟩), .int .i64 (t : Int)] w fun e w' => e = .returned (.tuple #[.int .u64 (now : Int), .int .i64 0]) ∧ w' = w.setCell ⟨rc, t, none⟩ (.int .u64 (now : Int)) := by
 obtain ⟨c0, f0, l0⟩ := h.cell ht; rw [h0] at c0; have T1 := hid (qfl w lo p rc now H h t ht); have T2 := hid (qjv w lo p rc now H h); have T3 := hid (qx2 rc t 0 (now : Int) w c0 f0 l0); clear h c0 f0 h0; go_enter func296, ntmps296; go_wp2_with fail; refine T1.out.mono ?_; rintro e w1 ⟨rfl, rfl⟩; go_wp2_with fail; refine T2.out.mono ?_; rintro e w2 ⟨rfl, rfl⟩; go_wp2_with fail; refine T3.out.mono ?_; rintro e w3 ⟨rfl, rfl⟩; go_wp2_with fail; go_ret2; exact ⟨rfl, rfl⟩
end
section
open Go.RowKit
theorem qib {P : Program} {f : FuncId} {fn : Func} (hf : P.funcs[f]? = some fn) (hname : (fn.name == "runtime.NumGoroutine") = false) (hb : fn.body.isNone = true) (hn : Extern.findNext fn = none) (k : IntKind)
 (he : Extern.find fn = some (Extern.Atomic.swapT (.int k))) {a : Addr} {x y : Int} {w : World} (hc : w.cell? a = some (.int k x)) (hz : w.frozen? a = false) :
 (callFunc f #[.pointer (some a), .int k y]).run P w = .ok (.value (.int k x)) (w.setCell a (.int k y)) := by
 rw [run_callFunc_extern hf hname hb hn he]; change (Sem.run P (do
  let a' ← asAddr (.pointer (some a))
  let old ← Extern.Atomic.read (.int k) a'
  store a' (.int k y) .atomic
  pure old) w).andThen _ = _
 simp [Extern.Atomic.read, asAddr, hc, hz, run_store P w a (.int k y) .atomic rfl, Result.andThen]
theorem qrp (b o : Nat) (c d : Int) (w : World) (h : w.cell? ⟨b, o, none⟩ = some (.int .u64 c)) (hf : w.frozen? ⟨b, o, none⟩ = false) (_hb : b < w.heap.size) : Calls prog 347 #[.pointer (some ⟨b, o, none⟩), .int .u64 d] w fun e w' => e = .returned (.int .u64 c) ∧ w' = w.setCell ⟨b, o, none⟩ (.int .u64 d) := by
 have hs := qib (P := prog) func367 (by kernel_rfl) (by kernel_rfl) (by kernel_rfl) .u64 (by kernel_rfl) (y := d) h hf; go_enter func347, ntmps347; go_wp2_with fail; go_ret; exact ⟨rfl, rfl⟩
theorem qwp (w : World) (lo p rc now : Nat) (H : List Nat) (h : RdAt w lo p rc now H) (t : Nat) (ht : t < H.length) (h0 : ¬ H[t] = 0) : Calls prog 296 #[.pointer (some ⟨p, 0, none⟩), .int .i64 (t : Int)] w fun e w' => e = .returned (.tuple #[.int .u64 0, .int .i64 7]) ∧ w' = w := by
 obtain ⟨c0, f0, l0⟩ := h.cell ht; have T1 := hid (qfl w lo p rc now H h t ht); have T2 := hid (qjv w lo p rc now H h); have T3 := hid (qtq rc t (H[t] : Int) 0 (now : Int) (by omega) w c0 f0 l0); clear h c0 f0 h0; go_enter func296, ntmps296; go_wp2_with fail; refine T1.out.mono ?_; rintro e w1 ⟨rfl, rfl⟩; go_wp2_with fail; refine T2.out.mono ?_; rintro e w2 ⟨rfl, rfl⟩; go_wp2_with fail; refine T3.out.mono ?_; rintro e w3 ⟨rfl, rfl⟩; go_wp2_with fail; go_ret2; exact ⟨rfl, rfl⟩
theorem qsn (w : World) (lo p rc now : Nat) (H : List Nat) (h : RdAt w lo p rc now H) (t : Nat) (ht : t < H.length) : Calls prog 310 #[.pointer (some ⟨p, 0, none⟩), .int .i64 (t : Int)] w fun e w' => e = .returned (.int .i64 (if H[t] = 0 then 12 else 0)) ∧ w' = w.setCell ⟨rc, t, none⟩ (.int .u64 0) := by
 obtain ⟨c0, f0, l0⟩ := h.cell ht; have T1 := hid (qfl w lo p rc now H h t ht); have T3 := hid (qrp rc t (H[t] : Int) 0 w c0 f0 l0); clear h c0 f0; by_cases h0 : H[t] = 0
 · rw [if_pos h0]
   rw [h0] at T3; go_enter func310, ntmps310; go_wp2_with fail; refine T1.out.mono ?_; rintro e w1 ⟨rfl, rfl⟩; go_wp2_with fail; refine T3.out.mono ?_; rintro e w3 ⟨rfl, rfl⟩; go_wp2_with fail; go_ret; exact ⟨rfl, rfl⟩
 · rw [if_neg h0]
   generalize H[t] = v at *; have hv : ((v : Int) == 0) = false := by rw [beq_eq_false_iff_ne]; omega
   go_enter func310, ntmps310; go_wp2_with fail; refine T1.out.mono ?_; rintro e w1 ⟨rfl, rfl⟩; go_wp2_with fail; refine T3.out.mono ?_; rintro e w3 ⟨rfl, rfl⟩; go_wp2_with fail; go_ret; exact ⟨rfl, rfl⟩
theorem qv8 : (prog.info? 125).map (fun i => (i.zero.map Value.cells, i.size, i.bytes)) = some (some #[.int .u64 0], 1, 8) := by kernel_rfl
theorem qs2 (n : Nat) (w : World) (h1 : 1 ≤ n) (h2 : n ≤ 4) : Calls prog 68 #[.int .i64 (n : Int)] w fun e w' => e = .returned (.tuple #[.pointer (some ⟨w.heap.size + 1, 0, none⟩), .int .i64 0]) ∧ RdAt w' w.heap.size (w.heap.size + 1) w.heap.size 1 (List.replicate n 0) ∧ Below w.heap.size w w' := by
 have g1 : ¬ (n : Int) < 1 := by omega
 have g2 : ¬ (4 : Int) < (n : Int) := by omega
 obtain ⟨i, hi, hz, hs, hby⟩ : ∃ i, prog.info? 125 = some i ∧ i.zero.map Value.cells = some #[.int .u64 0] ∧ i.size = 1 ∧ i.bytes = 8 := by
  have := qv8; cases hq : prog.info? 125 with
  | none => rw [hq] at this; cases this
  | some i => rw [hq] at this; simp at this; exact ⟨i, rfl, by simpa using this⟩
 obtain ⟨z, hz1, hz2⟩ : ∃ z, i.zero = some z ∧ z.cells = #[.int .u64 0] := by
  cases hq : i.zero with
  | none => rw [hq] at hz; cases hz
  | some z => rw [hq] at hz; simp at hz; exact ⟨z, rfl, hz⟩
 have MK := fun W => run_make (P := prog) W 214 125 i z underlying214 hi hz1 .i64 .i64 (n : Int) (n : Int) (by omega) (Int.le_refl _) (by rw [hby]; omega) (by omega)
 simp only [Int.toNat_natCast, hs, hz2, Nat.mul_one] at MK; clear hz1 hz2 hz hs hby hi; have hmc : madeCells #[Value.int .u64 0] n = ((List.replicate n 0).map fun n : Nat => Value.int .u64 (n : Int)).toArray := by
  apply Array.ext'; rw [toList_madeCells_one, List.map_replicate]; rfl
 have HMC := hid hmc; clear hmc; go_enter func68, ntmps68; go_upto_region 4 with fail; generalize hw2 : World.alloc (World.alloc w _) _ = w2; have R0 : w2.heap[w.heap.size]? = some (.cells ((List.replicate n 0).map fun n : Nat => Value.int .u64 (n : Int)).toArray 125 (0, 0)) := by rw [← hw2, ← HMC.out]; exact (Below.heap_alloc _ _ _ (by simp)).trans ((qa2 _ _ _).trans (if_pos rfl))
 have B0 : w2.heap[w.heap.size + 1]? = some (.cells #[.int .u64 0, .slice (some ⟨w.heap.size, 0, none⟩) n n] 216 (0, 0)) := by rw [← hw2]; exact (qa2 _ _ _).trans (by rw [if_pos (by simp)])
 have b2 : Below w.heap.size w w2 := by rw [← hw2]; exact ((Below.refl _ _).alloc (Nat.le_refl _) _).alloc (by simp) _
 have HR0 := hid R0; have HB0 := hid B0; have HB2 := hid b2; have T := hid (qfn (w.heap.size + 1) 0 0 1 w2 (cell_of_row w2 _ 0 _ _ _ B0) (frozen_of_row w2 _ 0 _ _ B0) (qa0 B0)); clear hw2 R0 B0 b2 MK; go_wp2_with fail; refine T.out.mono ?_; rintro e w3 ⟨rfl, rfl⟩; go_wp2_with fail; go_ret2; refine ⟨rfl, ⟨by rw [List.length_replicate]; exact heap_setCell_same w2 _ 0 _ _ (.int .u64 1) HB0.out, (Below.heap_setCell _ _ _ _ (by simp)).trans HR0.out, ⟨by omega, Nat.le_refl _, by omega⟩, by rw [List.length_replicate]; omega, by omega⟩, HB2.out.setCell (by simp) _⟩
end
section
open Go.RowKit
def intE (x : Int) : List Value := [.int .i64 x]
theorem qp2 (x : Int) : (intE x).length = 1 := rfl
theorem qwc (x : Int) : ∀ u ∈ intE x, u.oneCell' = true := by intro u hu; simp [intE] at hu; subst hu; rfl
theorem qzq {ops : Array Oper} {rest : List Oper} {o : Oper} {a : Act} {Q : Exit → Act → World → Prop} (w : World) (hgd : o.guard = none) (s x : Operand)
 (ho : o.op = .call { callee := .builtin .append, args := #[s, x], argTypes := #[23, 23] }) {lo : Nat} {A : Option Addr} {c : Nat} {l : List Int} (hs : a.eval s = .slice A l.length c) (own : Own intE 3 1 w lo A c l)
 {B : Nat} {A2 : Option Addr} {m : List Int} (c2 : Nat) (hx : a.eval x = .slice A2 m.length c2) (arr : Arr intE 1 w B A2 m) (hb : l.length + m.length ≤ 1000000) (hlo : lo ≤ w.heap.size)
 (h : ∀ A' c' w', Own intE 3 1 w' lo A' c' (l ++ m) → w.grownBy w' (qa8 A c) → (A' = A ∧ c' = c ∨ ∃ g, A' = some ⟨g, 0, none⟩ ∧ w.heap.size ≤ g) → wpList prog ops Q rest (a.put o.dst (.slice A' (l.length + m.length) c')) w') :
 wpList prog ops Q (o :: rest) a w := by
 obtain ⟨i0, hi, hz0, hz1, hz2⟩ := info_parts qk9; exact qar w hgd s x 23 ho i0 _ 8 underlying23 hi hz0 hz1 hz2 rfl (by decide) qp2 qwc hs own c2 hx arr (by unfold maxLen; omega) (by omega) hlo h
theorem qvr (w : World) (lo p oc now dur clo : Nat) (owed : List Int) (noted left : List Bool) (step : Value) (h : qbi w lo p oc now dur clo owed noted left step) : Calls prog 303 #[.pointer (some ⟨p, 0, none⟩)] w fun e w' => ∃ A c, e = .returned (.slice A owed.length c) ∧ Own intE 3 1 w' w.heap.size A c owed ∧ Below w.heap.size w w' := by
 have hp := h.lt; have p3 := h.c3; have hoc := qa0 h.rows; have hl := h.len; have hA : Arr intE 1 w w.heap.size (some ⟨oc, 0, none⟩) owed := by
  refine .inr ⟨oc, 0, rfl, hoc, fun i hi j u hu => ?_⟩; have hj : j = 0 := by
   have := (List.getElem?_eq_some_iff.1 hu).1; rw [qp2] at this; omega
  subst hj; rw [Nat.mul_one, Nat.add_zero, Nat.zero_add, cell_of_row w oc i _ _ _ h.rows, List.getElem?_toArray, List.getElem?_map, List.getElem?_eq_getElem hi]; simpa [intE] using hu
 have HA := hid hA; clear h hA; go_enter func303, ntmps303; go_wp2_with (at_builtin; refine qzq (l := []) (m := owed) _ rfl (.tmp 5) (.tmp 9) rfl rfl (Own.zero (lo := w.heap.size)) owed.length rfl (HA.out.below ((Below.refl _ w).alloc (Nat.le_refl _) _)) (by simp; omega) (by simp) ?_; intro A' c' w' hown hgr hloc); go_ret; refine ⟨A', c', by simp, by simpa using hown, ((Below.refl _ w).alloc (Nat.le_refl _) _).grown hgr (by simp) (fun k hk => ?_)⟩; simp [qa8] at hk
noncomputable def qhj : Value := Tryz.zeroCells150.getD 520 undef
theorem qww (oc n : Nat) : Tryz.zeroCells150.setIfInBounds 3 (.slice (some ⟨oc, 0, none⟩) n n) = (clkC 0 0 0 oc n (List.replicate 258 false) (List.replicate 258 false) qhj).toArray := by kernel_rfl
theorem qbi.setNow {w : World} {lo p oc now dur clo : Nat} {owed : List Int} {noted left : List Bool} {step : Value} (h : qbi w lo p oc now dur clo owed noted left step) (v : Nat) : qbi (w.setCell ⟨p, 0, none⟩ (.int .u64 (v : Int))) lo p oc v dur clo owed noted left step := by
 refine ⟨?_, (Below.heap_setCell _ _ _ _ (Ne.symm h.lo.2.2)).trans h.rows, h.lo, h.len⟩; rw [heap_setCell_same w p 0 _ _ (.int .u64 (v : Int)) h.box, List.setIfInBounds_toArray]; rfl
theorem qbi.setDur {w : World} {lo p oc now dur clo : Nat} {owed : List Int} {noted left : List Bool} {step : Value} (h : qbi w lo p oc now dur clo owed noted left step) (v : Nat) : qbi (w.setCell ⟨p, 1, none⟩ (.int .u64 (v : Int))) lo p oc now v clo owed noted left step := by
 refine ⟨?_, (Below.heap_setCell _ _ _ _ (Ne.symm h.lo.2.2)).trans h.rows, h.lo, h.len⟩; rw [heap_setCell_same w p 1 _ _ (.int .u64 (v : Int)) h.box, List.setIfInBounds_toArray]; rfl
theorem qqv (n : Nat) (w : World) (h1 : 1 ≤ n) (h2 : n ≤ 4) : Calls prog 70 #[.int .i64 (n : Int), .int .u64 0] w fun e w' => e = .returned (.tuple #[.pointer (some ⟨w.heap.size + 1, 0, none⟩), .int .i64 0]) ∧ qbi w' w.heap.size (w.heap.size + 1) w.heap.size 1 0 0 (List.replicate n 0) (List.replicate 258 false) (List.replicate 258 false) qhj ∧ Below w.heap.size w w' := by
 have g1 : ¬ (n : Int) < 1 := by omega
 have g2 : ¬ (4 : Int) < (n : Int) := by omega
 have MK := fun W => run_make_row' (P := prog) 23 3 (.int .i64 0) 8 underlying23 qk9 rfl .i64 .i64 n (by omega) (by omega) W
 go_enter func70, ntmps70; go_upto_region 6 with fail; have hmc : madeCells #[Value.int .i64 0] n = ((List.replicate n (0 : Int)).map (Value.int .i64)).toArray := by
  apply Array.ext'; rw [toList_madeCells_one, List.map_replicate]
 generalize hw2 : World.alloc (World.alloc w _) _ = w2; have HC : Hid (qbi w2 w.heap.size (w.heap.size + 1) w.heap.size 0 0 0 (List.replicate n 0) (List.replicate 258 false) (List.replicate 258 false) qhj) := hid (by
  refine ⟨?_, ?_, ⟨by omega, Nat.le_refl _, by omega⟩, by simp; omega⟩
  · rw [List.length_replicate, ← qww, ← hw2]
    exact (qa2 _ _ _).trans (by rw [if_pos (by simp)])
  · rw [← hmc, ← hw2]
    exact (Below.heap_alloc _ _ _ (by simp)).trans ((qa2 _ _ _).trans (if_pos rfl)))
 have b2 : Below w.heap.size w w2 := by rw [← hw2]; exact ((Below.refl _ _).alloc (Nat.le_refl _) _).alloc (by simp) _
 have HB := hid b2; have T1 := hid (qfn (w.heap.size + 1) 1 0 0 w2 HC.out.c1 (frozen_of_row w2 _ 1 _ _ HC.out.box) HC.out.lt); clear hw2 b2 hmc MK; generalize Tryz.zeroCells150.setIfInBounds 3 _ = zc; go_wp2_with fail; refine T1.out.mono ?_; rintro e w3 ⟨rfl, rfl⟩; have H3 := hid (HC.out.setDur 0); have T2 := hid (qfn (w.heap.size + 1) 0 0 1 _ H3.out.c0 (frozen_of_row _ _ 0 _ _ H3.out.box) H3.out.lt); go_wp2_with fail; refine T2.out.mono ?_; rintro e w4 ⟨rfl, rfl⟩; go_wp2_with fail; go_ret2; exact ⟨rfl, H3.out.setNow 1, (HB.out.setCell (by simp) _).setCell (by simp) _⟩
end
section
open Go.RowKit
structure qan where
 cls : Int
 taken : List Bool
 n : Int
 ht : taken.length = 8
def qan.enc (x : qan) : List Value := [.int .i64 x.cls] ++ x.taken.map Value.bool ++ [.int .i64 x.n]
theorem qan.enc_len (x : qan) : x.enc.length = 10 := by simp [qan.enc, x.ht]
theorem qan.e_cls (x : qan) : x.enc[0]? = some (.int .i64 x.cls) := rfl
theorem qan.e_taken (x : qan) {k : Nat} (hk : k < 8) : x.enc[1 + k]? = some (.bool (x.taken[k]'(by rw [x.ht]; exact hk))) := by
 have h1 : k < x.taken.length := by rw [x.ht]; exact hk
 rw [qan.enc, List.append_assoc, List.getElem?_append_right (by simp), List.getElem?_append_left (by simp; omega), List.getElem?_map]; simp only [List.length_cons, List.length_nil, Nat.zero_add, Nat.add_sub_cancel_left]; rw [List.getElem?_eq_getElem h1]; rfl
theorem qan.e_n (x : qan) : x.enc[9]? = some (.int .i64 x.n) := by
 rw [qan.enc, List.getElem?_append_right (by simp [x.ht])]; simp [x.ht]
structure qb8 (w : World) (lo p sc : Nat) (S : List qan) : Prop where
 box : w.heap[p]? = some (.cells #[.slice (some ⟨sc, 0, none⟩) S.length S.length] 220 (0, 0))
 rows : Own qan.enc 223 10 w lo (some ⟨sc, 0, none⟩) S.length S
 lo : lo ≤ p ∧ lo ≤ sc ∧ p ≠ sc
 len : 1 ≤ S.length ∧ S.length ≤ 32
structure qu8 (w : World) (sc i : Nat) (x : qan) : Prop where
 cls : w.cell? ⟨sc, i * 10, none⟩ = some (.int .i64 x.cls)
 taken : ∀ k (hk : k < 8), w.cell? ⟨sc, i * 10 + 1 + k, none⟩ = some (.bool (x.taken[k]'(by rw [x.ht]; exact hk)))
 n : w.cell? ⟨sc, i * 10 + 9, none⟩ = some (.int .i64 x.n)
 fr : ∀ k, w.frozen? ⟨sc, k, none⟩ = false
 lt : sc < w.heap.size
theorem qb8.slab {w : World} {lo p sc : Nat} {S : List qan} (h : qb8 w lo p sc S) {i : Nat} (hi : i < S.length) : qu8 w sc i S[i] := by
 have hp : ∀ o v, o < 10 → S[i].enc[o]? = some v → w.rangeAt sc (0 + i * 10 + o) [v] ∧ w.there sc (0 + i * 10 + o) [v].length ∧ sc < w.heap.size := fun o v ho hv => h.rows.part qan.enc_len hi (o := o) (vs := [v]) (by simp; omega) (fun j hj => by
  simp only [List.length_cons, List.length_nil] at hj
  obtain rfl : j = 0 := by omega
  rw [Nat.add_zero, hv]; rfl)
 have h0 := hp 0 _ (by omega) (qan.e_cls _); have h9 := hp 9 _ (by omega) (qan.e_n _); have hf : ∀ k, w.frozen? ⟨sc, k, none⟩ = false := fun k => by
  rcases h.rows.2.2 with h1 | ⟨b', o', cur, hA, -, hh, -⟩
  · have := h.len; omega
  · cases hA
    exact frozen_of_row w sc k _ _ hh
 refine ⟨?_, fun k hk => ?_, ?_, hf, h0.2.2⟩
 · have := h0.1 0 _ rfl
   simpa using this
 · have := (hp (1 + k) _ (by omega) (qan.e_taken _ hk)).1 0 _ rfl
   rw [show 0 + i * 10 + (1 + k) + 0 = i * 10 + 1 + k by omega] at this; exact this
 · have := h9.1 0 _ rfl
   simpa using this
theorem qhi (w : World) (lo p sc : Nat) (S : List qan) (h : qb8 w lo p sc S) : Calls prog 323 #[.pointer (some ⟨p, 0, none⟩)] w fun e w' => e = .returned (.slice (some ⟨sc, 0, none⟩) S.length S.length) ∧ w' = w := by
 have hp := qa0 h.box; have p0 := cell_of_row w p 0 _ _ _ h.box; clear h; go_enter func323, ntmps323; go_wp2_with fail; go_ret; exact ⟨rfl, rfl⟩
def qrc (x : qan) (w : World) (e : Ending) (w' : World) : Prop := w' = w ∧ ∃ r : Int, e = .returned (.int .i64 r) ∧
 ((r = -1 ∧ ∀ j (h : j < x.taken.length), j < 8 / qa9 x.cls → x.taken[j] = true) ∨ ∃ k, ∃ h : k < x.taken.length, r = k ∧ k < 8 / qa9 x.cls ∧ x.taken[k] = false)
theorem qt4 (w : World) (sc i : Nat) (x : qan) (h : qu8 w sc i x) (hc : ¬ qa9 x.cls = 0) : Calls prog 363 #[.pointer (some ⟨sc, i * 10, none⟩)] w (qrc x w) := by
 have H := hid h; have c0 := h.cls; have hlt := h.lt; obtain ⟨n, q, hn, hq, hn1, hn8, hq8⟩ : ∃ n q : Nat, qa9 x.cls = n ∧ 8 / n = q ∧ 1 ≤ n ∧ n ≤ 8 ∧ q ≤ 8 := by
  rcases qet x.cls with h | h | h | h | h
  · exact absurd h hc
  all_goals exact ⟨_, _, h, rfl, by omega, by omega, by omega⟩
 have HN := hid hn; have HQ := hid hq; have HDI := hid (show (8 : Int) / (n : Int) = (q : Int) by rw [← hq]; rfl); have hne : ((n : Int) == 0) = false := by rw [beq_eq_false_iff_ne]; omega
 have hn0 : ¬ (n : Int) = 0 := by omega
 have hx := x.ht; have HX := hid hx; clear h hn hq hx; go_enter func363, ntmps363; go_wp2_with fail; refine (qaw x.cls w).mono ?_; rintro e w1 ⟨rfl, rfl⟩; rw [HN.out]; go_wp2_with fail; rw [HDI.out]; clear hne hn0 c0; go_loopw [3, 10] (fun _ v10 wr => ∃ k : Nat, k ≤ q ∧ v10 = .int .i64 k ∧ wr = w1 ∧ ∀ j (h : j < x.taken.length), j < k → x.taken[j] = true) (fun _ v10 _ => q - (intOf v10).toNat)
 case atStart => exact ⟨0, by omega, rfl, rfl, fun j _ hj => absurd hj (by omega)⟩
 case round =>
  obtain ⟨k, hk, rfl, rfl, hall⟩ := hrel; have HALL := hid hall; clear hall; by_cases hlt2 : k < q
  · have hlti : (k : Int) < (q : Int) := by omega
    have hk8 : (k : Int) < 8 := by omega
    have hkt : k < x.taken.length := by rw [HX.out]; omega
    have tk := H.out.taken k (by omega); cases hb : x.taken[k] with
    | true =>
     have HB := hid hb; rw [hb] at tk; clear hb; go_wp2_with fail; exact ⟨⟨k + 1, by omega, by go_num, trivial, fun j hj hjk => by
      rcases (by omega : j < k ∨ j = k) with h1 | rfl
      · exact HALL.out j hj h1
      · exact HB.out⟩, by simp [intOf]; omega⟩
    | false =>
     have HB := hid hb; rw [hb] at tk; clear hb; go_wp2_with fail; go_ret; exact ⟨rfl, _, rfl, .inr ⟨k, hkt, rfl, by rw [HN.out, HQ.out]; exact hlt2, HB.out⟩⟩
  · obtain rfl : k = q := by omega
    go_wp2_with fail; go_ret; exact ⟨rfl, -1, rfl, .inl ⟨rfl, fun j hj hjq => HALL.out j hj (by rw [HN.out, HQ.out] at hjq; exact hjq)⟩⟩
end
section
open Go.RowKit
def qan.put (x : qan) (c : Int) (k : Nat) : qan := { cls := c, taken := x.taken.set k true, n := wrap64 (x.n + 1), ht := by rw [List.length_set]; exact x.ht }
theorem qan.cls_same (x : qan) (c : Int) : ∀ j, j < 0 ∨ 0 + [Value.int .i64 c].length ≤ j → ({ x with cls := c } : qan).enc[j]? = x.enc[j]? := fun j hj => by
 simp only [List.length_cons, List.length_nil] at hj
 obtain ⟨i, rfl⟩ : ∃ i, j = i + 1 := ⟨j - 1, by omega⟩
 rfl
theorem qan.taken_same (x : qan) (k : Nat) (v : Bool) : ∀ j, j < 1 + k ∨ 1 + k + [Value.bool v].length ≤ j → ({ x with taken := x.taken.set k v, ht := by rw [List.length_set]; exact x.ht } : qan).enc[j]? = x.enc[j]? := fun j hj => by
 simp only [List.length_cons, List.length_nil] at hj
 have e : ∀ z : qan, z.enc[j]? = if j < 1 then some (.int .i64 z.cls) else if j < 9 then (z.taken.map Value.bool)[j - 1]? else [Value.int .i64 z.n][j - 9]? := fun z => by
  rw [qan.enc]
  split
  · obtain rfl : j = 0 := by omega
    rfl
  · split
    · rw [List.append_assoc, List.getElem?_append_right (by simp; omega), List.getElem?_append_left (by simp [z.ht]; omega)]
      simp
    · rw [List.getElem?_append_right (by simp [z.ht]; omega)]
      simp [z.ht]
 rw [e, e]
 by_cases h1 : j < 1
 · rw [if_pos h1, if_pos h1]
 · rw [if_neg h1, if_neg h1]
   by_cases h9 : j < 9
   · rw [if_pos h9, if_pos h9, List.map_set, List.getElem?_set_ne (by omega)]
   · rw [if_neg h9, if_neg h9]
theorem qan.n_same (x : qan) (v : Int) : ∀ j, j < 9 ∨ 9 + [Value.int .i64 v].length ≤ j → ({ x with n := v } : qan).enc[j]? = x.enc[j]? := fun j hj => by
 simp only [List.length_cons, List.length_nil] at hj
 rcases hj with hj | hj
 · have e : ∀ z : qan, z.enc[j]? = ([Value.int .i64 z.cls] ++ z.taken.map Value.bool)[j]? := fun z => by
    rw [qan.enc, List.getElem?_append_left (by simp [z.ht]; omega)]
   rw [e, e]
 · rw [List.getElem?_eq_none (by rw [qan.enc_len]; omega), List.getElem?_eq_none (by rw [qan.enc_len]; omega)]
theorem qeu {enc : List Value} {o : Nat} {v : Value} (h : enc[o]? = some v) : ∀ j, j < [v].length → enc[o + j]? = [v][j]? := fun j hj => by
 simp only [List.length_cons, List.length_nil] at hj
 obtain rfl : j = 0 := by omega
 rw [Nat.add_zero, h]
 rfl
def quc (lo p sc : Nat) (S : List qan) (w : World) (e : Ending) (w' : World) : Prop := e = .returned (.tuple #[]) ∧ qb8 w' lo p sc S ∧ Below lo w w' ∧ ∀ b, b ≠ sc → w'.heap[b]? = w.heap[b]?
theorem qro (w : World) (lo p sc : Nat) (S : List qan) (h : qb8 w lo p sc S) (i k : Nat) (hi : i < S.length) (hk : k < 8) (c : Int) : Calls prog 324 #[.pointer (some ⟨sc, i * 10, none⟩), .int .i64 c, .int .i64 (k : Int)] w (quc lo p sc (S.set i (S[i].put c k)) w) := by
 have H := hid h; have hs := h.slab hi; have c0 := hs.cls; have ck := hs.taken k hk; have c9 := hs.n; have f0 := hs.fr (i * 10); have fk := hs.fr (i * 10 + 1 + k); have f9 := hs.fr (i * 10 + 9); have hlt := hs.lt; have hk8 : (k : Int) < 8 := by omega
 have hne1 : ¬ i * 10 = i * 10 + 1 + k := by omega
 have hne2 : ¬ i * 10 + 1 + k = i * 10 + 9 := by omega
 have hkt : k < S[i].taken.length := by rw [S[i].ht]; exact hk
 have h1 := h.rows.setPart qan.enc_len hi { S[i] with cls := c } 0 [.int .i64 c] (by simp) (qan.cls_same _ c) (qeu rfl); have h2 := h1.setPart qan.enc_len (i := i) (by rw [List.length_set]; exact hi) { S[i] with cls := c, taken := S[i].taken.set k true, ht := by rw [List.length_set]; exact S[i].ht } (1 + k) [.bool true] (by simp; omega) (fun j hj => by rw [List.getElem_set_self]; exact qan.taken_same { S[i] with cls := c } k true j hj) (qeu (by rw [qan.e_taken _ hk]; simp)); have h3 := h2.setPart qan.enc_len (i := i) (by rw [List.length_set, List.length_set]; exact hi) (S[i].put c k) 9 [.int .i64 (wrap64 (S[i].n + 1))] (by simp) (fun j hj => by rw [List.getElem_set_self]; exact qan.n_same { S[i] with cls := c, taken := S[i].taken.set k true, ht := by rw [List.length_set]; exact S[i].ht } (wrap64 (S[i].n + 1)) j hj) (qeu (qan.e_n _)); rw [List.set_set, List.set_set, Nat.zero_add, Nat.add_zero, ← Nat.add_assoc] at h3; have HR := hid (show Own qan.enc 223 10 (((w.setCell ⟨sc, i * 10, none⟩ (.int .i64 c)).setCell ⟨sc, i * 10 + 1 + k, none⟩ (.bool true)).setCell ⟨sc, i * 10 + 9, none⟩ (.int .i64 (wrap64 (S[i].n + 1)))) lo (some ⟨sc, 0, none⟩) S.length (S.set i (S[i].put c k)) from h3); clear h hs h1 h2 h3; generalize S[i].put c k = y at *; generalize S[i].taken[k] = tk at *; generalize S[i].n = sn at *; generalize S[i].cls = scl at *; go_enter func324, ntmps324; go_wp2_with fail; have hlo := H.out.lo; have hb3 : ∀ b, b ≠ sc → ((((w.setCell ⟨sc, i * 10, none⟩ (.int .i64 c)).setCell ⟨sc, i * 10 + 1 + k, none⟩ (.bool true)).setCell ⟨sc, i * 10 + 9, none⟩ (.int .i64 (wrap64 (sn + 1)))).heap[b]?) = w.heap[b]? := fun b hb =>
  (Below.heap_setCell _ _ _ _ hb).trans ((Below.heap_setCell _ _ _ _ hb).trans (Below.heap_setCell _ _ _ _ hb))
 refine bodyPost_ret (v := .tuple #[]) (by simp [results, results324]) rfl ⟨rfl, ⟨by rw [hb3 p hlo.2.2, List.length_set]; exact H.out.box, by rw [List.length_set]; exact HR.out, hlo, by rw [List.length_set]; exact H.out.len⟩, (((Below.refl _ _).setCell hlo.2.1 _).setCell hlo.2.1 _).setCell hlo.2.1 _, hb3⟩
end
section
open Go.RowKit
theorem qmx (k : Nat) (c : Int) : (qb1 k c).length ≤ 8 := by
 unfold qb1; split
 · simp
 · rw [List.length_map, List.length_range]
   exact Nat.div_le_self _ _
theorem qmy {i : Nat} {c : Int} {k k' : Nat} (h : k < (qb1 i c).length) (h' : k' < (qb1 i c).length) (e : (qb1 i c)[k] = (qb1 i c)[k']) : k = k' := by
 have h0 : ¬ (qa9 c = 0 ∨ 32 ≤ i) := fun h0 => by simp [qb1, h0] at h
 simp only [qb1, if_neg h0, List.getElem_map, List.getElem_range] at e; have hp : 0 < qa9 c := by omega
 exact Nat.eq_of_mul_eq_mul_right hp (by omega)
def qxj (S : List qan) (line : Int) : Prop := ∀ (i k : Nat) (hi : i < S.length) (hk : k < S[i].taken.length) (hs : k < (qb1 i S[i].cls).length), qcc line = (i : Int) → line = ((qb1 i S[i].cls)[k] : Int) → S[i].taken[k] = false
def qA1 (sc : Nat) (S : List qan) (line : Int) (w : World) (e : Ending) (w' : World) : Prop :=
 Below w.heap.size w w' ∧ ∃ (pv : Value) (kk : Int) (ok : Bool), e = .returned (.tuple #[pv, .int .i64 kk, .bool ok]) ∧
  (ok = true → ∃ (i k : Nat) (hi : i < S.length), pv = .pointer (some ⟨sc, i * 10, none⟩) ∧ kk = k ∧ k < 8 ∧ (∃ hk : k < S[i].taken.length, S[i].taken[k] = true) ∧ ∃ hs : k < (qb1 i S[i].cls).length, line = ((qb1 i S[i].cls)[k] : Int)) ∧
  (ok = false → qxj S line)
theorem qya (w : World) (lo p sc : Nat) (S : List qan) (h : qb8 w lo p sc S) (line : Int) : Calls prog 318 #[.pointer (some ⟨p, 0, none⟩), .int .i64 line] w (qA1 sc S line w) := by
 have H := hid h; have hp := qa0 h.box; have p0 := cell_of_row w p 0 _ _ _ h.box; have hlen := h.len; have TA := hid (qhi w lo p sc S h); clear h; by_cases hi0 : qcc line < 0
 · have HI0 := hid hi0
   have HN0 : Hid (qxj S line) := hid fun i' k' _ _ _ h1 => absurd h1 (by omega)
   go_enter func318, ntmps318; go_wp2_with fail; refine (qfo line w).mono ?_; rintro e w1 ⟨rfl, rfl⟩; generalize qcc line = sl at *; go_wp2_with fail; refine bodyPost_ret (v := .tuple #[.pointer none, .int .i64 0, .bool false]) (by simp [results, results318]) rfl ⟨Below.refl _ _, _, _, false, rfl, (fun h => by cases h), fun _ => HN0.out⟩
 · obtain ⟨i, hi⟩ : ∃ i : Nat, qcc line = (i : Int) := ⟨(qcc line).toNat, by omega⟩
   have hin : ¬ (i : Int) < 0 := by omega
   have HI := hid hi; clear hi hi0; by_cases hlt : i < S.length
   · have hlti : (i : Int) < (S.length : Int) := by omega
     have hs := H.out.slab hlt; have c0 := hs.cls; have hsc := hs.lt; have HS := hid hs; have TS := hid (qpw i S[i].cls w (by omega)); have hsl := qmx i S[i].cls; clear hs; go_enter func318, ntmps318; go_wp2_with fail; refine (qfo line w).mono ?_; rintro e w1 ⟨rfl, rfl⟩; rw [HI.out]; go_wp2_with fail; refine TA.out.mono ?_; rintro e w2 ⟨rfl, rfl⟩; go_wp2_with fail; refine TS.out.mono ?_; rintro e w3 ⟨A, ca, rfl, hown, hb⟩; have HO := hid hown; have HB := hid hb; have HLS := hid hsl; clear hown hb c0 p0 hsl; go_wp2_with fail; refine (qsv _ line A ca w3 (HO.out.arr qjz) HO.out.len HO.out.max).mono ?_; rintro e w4 ⟨rfl, r, rfl, hr⟩; have hs4 : qu8 w4 sc i S[i] := by
      have hl := HS.out.lt; exact ⟨(HB.out.cell (p := ⟨sc, i * 10, none⟩) hl).trans HS.out.cls, fun k hk => (HB.out.cell (p := ⟨sc, i * 10 + 1 + k, none⟩) hl).trans (HS.out.taken k hk), (HB.out.cell (p := ⟨sc, i * 10 + 9, none⟩) hl).trans HS.out.n, fun k => (HB.out.frozen (p := ⟨sc, k, none⟩) hl).trans (HS.out.fr k), Nat.lt_of_lt_of_le hl HB.out.size⟩
     have HS4 := hid hs4; have hl4 := hs4.lt; clear hs4; rcases hr with ⟨rfl, hno⟩ | ⟨k, hk, rfl, hlk⟩
     · have HNO := hid hno
       clear hno; go_wp2_with fail; go_quiet (fail); go_wp2_with fail; refine bodyPost_ret (v := .tuple #[.pointer (some ⟨sc, i * 10, none⟩), .int .i64 (-1), .bool false]) (by simp [results, results318]) rfl ⟨qa1 HB.out _, _, _, false, rfl, (fun h => by cases h), fun _ i' k' hi' hk' hs' h1 h2 => by obtain rfl : i' = i := (by have := HI.out; omega); exact absurd h2 (HNO.out k' hs')⟩
     · have hk8 : k < 8 := by have := HLS.out; omega
       have hk8i : (k : Int) < 8 := by omega
       have hk0 : (0 : Int) ≤ (k : Int) := by omega
       have hkt : k < S[i].taken.length := by rw [S[i].ht]; exact hk8
       have tk := HS4.out.taken k hk8; have HK := hid (And.intro hk8 (And.intro hkt ⟨hk, hlk⟩ : k < S[i].taken.length ∧ ∃ hs : k < (qb1 i S[i].cls).length, line = ((qb1 i S[i].cls)[k] : Int))); have HTK : Hid (S[i].taken[k] = S[i].taken[k]) := hid rfl; clear hlk; cases hb : S[i].taken[k] with
       | true =>
        have HBT := hid hb; rw [hb] at tk; clear hb HTK; go_wp2_with fail; go_quiet (fail); go_wp2_with fail; refine bodyPost_ret (v := .tuple #[.pointer (some ⟨sc, i * 10, none⟩), .int .i64 (k : Int), .bool true]) (by simp [results, results318]) rfl ⟨qa1 HB.out _, _, _, true, rfl, (fun _ => ⟨i, k, hlt, rfl, rfl, HK.out.1, ⟨HK.out.2.1, HBT.out⟩, HK.out.2.2⟩), fun h => by cases h⟩
       | false =>
        have HBT := hid hb; rw [hb] at tk; clear hb HTK; go_wp2_with fail; go_quiet (fail); go_wp2_with fail; refine bodyPost_ret (v := .tuple #[.pointer (some ⟨sc, i * 10, none⟩), .int .i64 (k : Int), .bool false]) (by simp [results, results318]) rfl ⟨qa1 HB.out _, _, _, false, rfl, (fun h => by cases h), fun _ i' k' hi' hk' hs' h1 h2 => by obtain rfl : i' = i := (by have := HI.out; omega); obtain rfl : k' = k := qmy hs' HK.out.2.2.1 (by have := HK.out.2.2.2; omega); exact HBT.out⟩
   · have hlti : (S.length : Int) ≤ (i : Int) := by omega
     go_enter func318, ntmps318; go_wp2_with fail; refine (qfo line w).mono ?_; rintro e w1 ⟨rfl, rfl⟩; rw [HI.out]; go_wp2_with fail; refine TA.out.mono ?_; rintro e w2 ⟨rfl, rfl⟩; go_wp2_with fail; refine bodyPost_ret (v := .tuple #[.pointer none, .int .i64 0, .bool false]) (by simp [results, results318]) rfl ⟨Below.refl _ _, _, _, false, rfl, (fun h => by cases h), fun _ i' k' hi' hk' hs' h1 h2 => absurd h1 (by have := HI.out; omega)⟩
end
section
open Go.RowKit
def qan.gave (x : qan) (k : Nat) : qan := { cls := if wrap64 (x.n - 1) = 0 then -1 else x.cls, taken := x.taken.set k false, n := wrap64 (x.n - 1), ht := by rw [List.length_set]; exact x.ht }
def qup (lo p sc : Nat) (S : List qan) (w : World) (e : Ending) (w' : World) : Prop :=
 ∃ (code : Int) (S' : List qan), e = .returned (.int .i64 code) ∧ (S' = S ∨ ∃ (i k : Nat) (hi : i < S.length), S' = S.set i (S[i].gave k) ∧ ∃ hk : k < S[i].taken.length, S[i].taken[k] = true) ∧
  qb8 w' lo p sc S' ∧ Below lo w w' ∧ ∀ b, b < w.heap.size → b ≠ sc → w'.heap[b]? = w.heap[b]?
theorem qb8.below {w w' : World} {lo p sc : Nat} {S : List qan} (h : qb8 w lo p sc S) (hb : Below w.heap.size w w') : qb8 w' lo p sc S :=
 ⟨(hb.block p (qa0 h.box)).trans h.box, h.rows.below hb, h.lo, h.len⟩
theorem qwj (w : World) (lo p sc : Nat) (S : List qan) (h : qb8 w lo p sc S) (line : Int) : Calls prog 270 #[.pointer (some ⟨p, 0, none⟩), .int .i64 line] w (qup lo p sc S w) := by
 have H := hid h; have TA := hid (qya w lo p sc S h line); have hlw : lo ≤ w.heap.size := by have := qa0 h.box; have := h.lo; omega
 clear h; go_enter func270, ntmps270; go_wp2_with fail; refine TA.out.mono ?_; rintro e w1 ⟨b1, pv, kk, ok, rfl, hok, -⟩; have HB := hid b1; have HP1 := hid (H.out.below b1); have HOK := hid hok; clear hok b1; cases ok with
 | false =>
  go_wp2_with fail; go_ret; exact ⟨1, S, rfl, .inl rfl, HP1.out, HB.out.mono hlw, fun b hb _ => HB.out.block b hb⟩
 | true =>
  obtain ⟨i, k, hi, rfl, rfl, hk8, hkt, -⟩ := HOK.out rfl; have hs := HP1.out.slab hi; have c0 := hs.cls; have ck := hs.taken k hk8; have c9 := hs.n; have f0 := hs.fr (i * 10); have fk := hs.fr (i * 10 + 1 + k); have f9 := hs.fr (i * 10 + 9); have hlt := hs.lt; have hk8i : (k : Int) < 8 := by omega
  have HKT := hid hkt; have hne1 : ¬ i * 10 = i * 10 + 1 + k := by omega
  have hne2 : ¬ i * 10 + 1 + k = i * 10 + 9 := by omega
  have hkl : k < S[i].taken.length := by rw [S[i].ht]; exact hk8
  have h1 := HP1.out.rows.setPart qan.enc_len hi { S[i] with taken := S[i].taken.set k false, ht := by rw [List.length_set]; exact S[i].ht } (1 + k) [.bool false] (by simp; omega) (qan.taken_same _ k false) (qeu (by rw [qan.e_taken _ hk8]; simp)); have h2 := h1.setPart qan.enc_len (i := i) (by rw [List.length_set]; exact hi) { S[i] with taken := S[i].taken.set k false, n := wrap64 (S[i].n - 1), ht := by rw [List.length_set]; exact S[i].ht } 9 [.int .i64 (wrap64 (S[i].n - 1))] (by simp) (fun j hj => by rw [List.getElem_set_self]; exact qan.n_same { S[i] with taken := S[i].taken.set k false, ht := by rw [List.length_set]; exact S[i].ht } (wrap64 (S[i].n - 1)) j hj) (qeu (qan.e_n _)); have hlo := HP1.out.lo; by_cases hz : wrap64 (S[i].n - 1) = 0
  · have h3 := h2.setPart qan.enc_len (i := i) (by rw [List.length_set, List.length_set]; exact hi) (S[i].gave k) 0 [.int .i64 (-1)] (by simp) (fun j hj => by rw [List.getElem_set_self]; exact (by unfold qan.gave; simp only [if_pos hz]; exact qan.cls_same { S[i] with taken := S[i].taken.set k false, n := wrap64 (S[i].n - 1), ht := by rw [List.length_set]; exact S[i].ht } (-1) j hj)) (qeu (by unfold qan.gave; simp only [if_pos hz]; rfl))
    rw [List.set_set, List.set_set, Nat.zero_add, Nat.add_zero, ← Nat.add_assoc] at h3; have HR := hid (show Own qan.enc 223 10 (((w1.setCell ⟨sc, i * 10 + 1 + k, none⟩ (.bool false)).setCell ⟨sc, i * 10 + 9, none⟩ (.int .i64 (wrap64 (S[i].n - 1)))).setCell ⟨sc, i * 10, none⟩ (.int .i64 (-1))) lo (some ⟨sc, 0, none⟩) S.length (S.set i (S[i].gave k)) from h3); have HZ := hid hz; have hze : (wrap64 (S[i].n - 1) == 0) = true := by rw [beq_iff_eq]; exact hz
    have hD : qb8 (((w1.setCell ⟨sc, i * 10 + 1 + k, none⟩ (.bool false)).setCell ⟨sc, i * 10 + 9, none⟩ (.int .i64 (wrap64 (S[i].n - 1)))).setCell ⟨sc, i * 10, none⟩ (.int .i64 (-1))) lo p sc (S.set i (S[i].gave k)) :=
     ⟨by rw [List.length_set]; exact (Below.heap_setCell _ _ _ _ hlo.2.2).trans ((Below.heap_setCell _ _ _ _ hlo.2.2).trans ((Below.heap_setCell _ _ _ _ hlo.2.2).trans HP1.out.box)), by rw [List.length_set]; exact HR.out, hlo, by rw [List.length_set]; exact HP1.out.len⟩
    have HD := hid hD; have HBL := hid ((((HB.out.mono hlw).setCell (p := ⟨sc, i * 10 + 1 + k, none⟩) hlo.2.1 (.bool false)).setCell (p := ⟨sc, i * 10 + 9, none⟩) hlo.2.1 (.int .i64 (wrap64 (S[i].n - 1)))).setCell (p := ⟨sc, i * 10, none⟩) hlo.2.1 (.int .i64 (-1))); have HOT := hid (fun (b : Nat) (hb : b < w.heap.size) (hbs : b ≠ sc) => (Below.heap_setCell _ (⟨sc, i * 10, none⟩ : Addr) (.int .i64 (-1)) _ hbs).trans ((Below.heap_setCell _ (⟨sc, i * 10 + 9, none⟩ : Addr) (.int .i64 (wrap64 (S[i].n - 1))) _ hbs).trans ((Below.heap_setCell w1 (⟨sc, i * 10 + 1 + k, none⟩ : Addr) (.bool false) _ hbs).trans (HB.out.block b hb)))); clear h1 h2 h3 hs hkt hz hD; go_wp2_with fail; go_ret; exact ⟨0, _, rfl, .inr ⟨i, k, hi, rfl, HKT.out⟩, HD.out, HBL.out, HOT.out⟩
  · have hg : S[i].gave k = { S[i] with taken := S[i].taken.set k false, n := wrap64 (S[i].n - 1), ht := by rw [List.length_set]; exact S[i].ht } := by unfold qan.gave; simp only [if_neg hz]
    rw [List.set_set, Nat.zero_add, ← Nat.add_assoc, ← hg] at h2; have HR := hid (show Own qan.enc 223 10 ((w1.setCell ⟨sc, i * 10 + 1 + k, none⟩ (.bool false)).setCell ⟨sc, i * 10 + 9, none⟩ (.int .i64 (wrap64 (S[i].n - 1)))) lo (some ⟨sc, 0, none⟩) S.length (S.set i (S[i].gave k)) from h2); have hze : (wrap64 (S[i].n - 1) == 0) = false := by rw [beq_eq_false_iff_ne]; exact hz
    have hD : qb8 ((w1.setCell ⟨sc, i * 10 + 1 + k, none⟩ (.bool false)).setCell ⟨sc, i * 10 + 9, none⟩ (.int .i64 (wrap64 (S[i].n - 1)))) lo p sc (S.set i (S[i].gave k)) :=
     ⟨by rw [List.length_set]; exact (Below.heap_setCell _ _ _ _ hlo.2.2).trans ((Below.heap_setCell _ _ _ _ hlo.2.2).trans HP1.out.box), by rw [List.length_set]; exact HR.out, hlo, by rw [List.length_set]; exact HP1.out.len⟩
    have HD := hid hD; have HBL := hid (((HB.out.mono hlw).setCell (p := ⟨sc, i * 10 + 1 + k, none⟩) hlo.2.1 (.bool false)).setCell (p := ⟨sc, i * 10 + 9, none⟩) hlo.2.1 (.int .i64 (wrap64 (S[i].n - 1)))); have HOT := hid (fun (b : Nat) (hb : b < w.heap.size) (hbs : b ≠ sc) => (Below.heap_setCell _ (⟨sc, i * 10 + 9, none⟩ : Addr) (.int .i64 (wrap64 (S[i].n - 1))) _ hbs).trans ((Below.heap_setCell w1 (⟨sc, i * 10 + 1 + k, none⟩ : Addr) (.bool false) _ hbs).trans (HB.out.block b hb))); clear h1 h2 hs hkt hz hD hg; go_wp2_with fail; go_ret; exact ⟨0, _, rfl, .inr ⟨i, k, hi, rfl, HKT.out⟩, HD.out, HBL.out, HOT.out⟩
end
section
open Go.RowKit
def qd3 (c : Int) : qan := { cls := c, taken := List.replicate 8 false, n := 0, ht := rfl }
theorem qrx : (prog.info? 223).map (fun i => (i.zero.map Value.cells, i.size, i.bytes)) = some (some (qd3 0).enc.toArray, 10, 24) := by kernel_rfl
theorem qq6 (z : Array Value) (n q r : Nat) (hz : z.size = 10) (hr : r < 10) (hq : q < n) : (madeCells z (n * 10))[q * 10 + r]? = z[r]? := by
 have h1 : q * 10 + r < n * 10 := by omega
 unfold madeCells; rw [Array.getElem?_map, Array.getElem?_range, if_pos h1, Option.map_some, hz, show (q * 10 + r) % 10 = r by omega, getElem!_pos z r (by omega), Array.getElem?_eq_getElem (by omega)]
def qbs (n k : Nat) : List qan := List.replicate k (qd3 (-1)) ++ List.replicate (n - k) (qd3 0)
theorem qav {n k : Nat} (h : k ≤ n) : (qbs n k).length = n := by simp [qbs]; omega
theorem qn0 {n k : Nat} (h : k < n) : (qbs n k)[k]'(by rw [qav (by omega)]; exact h) = qd3 0 := by
 simp only [qbs]; rw [List.getElem_append_right (by simp)]; simp
theorem ql2 {n k : Nat} (h : k < n) : (qbs n k).set k (qd3 (-1)) = qbs n (k + 1) := by
 unfold qbs; rw [List.set_append_right _ _ (by simp), List.length_replicate, Nat.sub_self, show n - k = (n - (k + 1)) + 1 by omega, List.replicate_succ, List.set_cons_zero, List.replicate_succ', List.append_assoc]; rfl
theorem qna (n : Nat) (w : World) (h1 : 1 ≤ n) (h2 : n ≤ 32) : Calls prog 71 #[.int .i64 (n : Int)] w fun e w' => e = .returned (.tuple #[.pointer (some ⟨w.heap.size + 1, 0, none⟩), .int .i64 0]) ∧ qb8 w' w.heap.size (w.heap.size + 1) w.heap.size (List.replicate n (qd3 (-1))) ∧ Below w.heap.size w w' := by
 have g1 : ¬ (n : Int) < 1 := by omega
 have g2 : ¬ (32 : Int) < (n : Int) := by omega
 obtain ⟨i, hi, hz, hs, hby⟩ : ∃ i, prog.info? 223 = some i ∧ i.zero.map Value.cells = some (qd3 0).enc.toArray ∧ i.size = 10 ∧ i.bytes = 24 := by
  have := qrx; cases hq : prog.info? 223 with
  | none => rw [hq] at this; cases this
  | some i => rw [hq] at this; simp at this; exact ⟨i, rfl, by simpa using this⟩
 obtain ⟨z, hz1, hz2⟩ : ∃ z, i.zero = some z ∧ z.cells = (qd3 0).enc.toArray := by
  cases hq : i.zero with
  | none => rw [hq] at hz; cases hz
  | some z => rw [hq] at hz; simp at hz; exact ⟨z, rfl, hz⟩
 have MK := fun W => run_make (P := prog) W 218 223 i z underlying218 hi hz1 .i64 .i64 (n : Int) (n : Int) (by omega) (Int.le_refl _) (by rw [hby]; omega) (by omega)
 simp only [Int.toNat_natCast, hs, hz2] at MK; clear hz1 hz2 hz hs hby hi; go_enter func71, ntmps71; go_wp2_with fail; refine (ql1 258 w (by omega) (by omega)).mono ?_; rintro e w1 ⟨rfl, rfl⟩; rw [show (((258 - 2) / 8 : Nat) : Int) = 32 from rfl]; go_upto_region 4 with fail; generalize hw2 : World.alloc (World.alloc w1 _) _ = w2; have HD : Hid (qb8 w2 w1.heap.size (w1.heap.size + 1) w1.heap.size (qbs n 0)) := hid (by
  refine ⟨?_, ?_, ⟨by omega, Nat.le_refl _, by omega⟩, by rw [qav (by omega)]; omega⟩
  · rw [qav (by omega), ← hw2]
    exact (qa2 _ _ _).trans (by rw [if_pos (by simp)])
  · rw [qav (by omega)]
    refine ⟨by rw [qav (by omega)]; exact Nat.le_refl _, by unfold maxLen; omega, .inr ⟨w1.heap.size, 0, madeCells (qd3 0).enc.toArray (n * 10), rfl, Nat.le_refl _, ?_, by rw [size_madeCells]; omega, fun j u hu => ?_⟩⟩
    · rw [← hw2]
      exact (Below.heap_alloc _ _ _ (by simp)).trans ((qa2 _ _ _).trans (if_pos rfl))
    · have hlt := (List.getElem?_eq_some_iff.1 hu).1
      rw [qao qan.enc_len, qav (by omega)] at hlt
      obtain ⟨q, r, rfl, hq, hr⟩ : ∃ q r, j = q * 10 + r ∧ q < n ∧ r < 10 := ⟨j / 10, j % 10, by omega, by omega, by omega⟩
      rw [qb0 qan.enc_len _ q (by rw [qav (by omega)]; exact hq) r hr] at hu
      rw [Nat.zero_add, qq6 _ n q r (by rw [List.size_toArray, qan.enc_len]) hr hq, List.getElem?_toArray]
      have : (qbs n 0)[q]'(by rw [qav (by omega)]; exact hq) = qd3 0 := by simp [qbs]
      rw [this] at hu
      exact hu)
 have b2 : Below w1.heap.size w1 w2 := by rw [← hw2]; exact ((Below.refl _ _).alloc (Nat.le_refl _) _).alloc (by simp) _
 have HB := hid b2; have hp2 := qa0 HD.out.box; have p0 := cell_of_row w2 _ 0 _ _ _ HD.out.box; rw [qav (by omega)] at p0; clear hw2 b2 MK; go_wp2_with fail; clear p0 hp2; go_loopw [5, 22] (fun _ v22 wr => ∃ k : Nat, k ≤ n ∧ v22 = .int .i64 k ∧ qb8 wr w1.heap.size (w1.heap.size + 1) w1.heap.size (qbs n k) ∧ Below w1.heap.size w1 wr) (fun _ v22 _ => n - (intOf v22).toNat)
 case atStart => exact ⟨0, by omega, rfl, HD.out, HB.out⟩
 case round =>
  obtain ⟨k, hk, rfl, hP, hb⟩ := hrel; have HP := hid hP; have HBR := hid hb; have hp3 := qa0 hP.box; have p0 := cell_of_row wr _ 0 _ _ _ hP.box; rw [qav hk] at p0; by_cases hlt : k < n
  · have hlti : (k : Int) < (n : Int) := by omega
    have hkl : k < (qbs n k).length := by rw [qav hk]; exact hlt
    have hs := hP.slab hkl; have c0 := hs.cls; have f0 := hs.fr (k * 10); have hl := hs.lt; have h1 := hP.rows.setPart qan.enc_len hkl (qd3 (-1)) 0 [.int .i64 (-1)] (by simp) (fun j hj => by rw [qn0 hlt]; exact qan.cls_same (qd3 0) (-1) j hj) (qeu rfl); rw [ql2 hlt, Nat.zero_add, Nat.add_zero, qav hk] at h1; have hD2 : qb8 (wr.setCell ⟨w1.heap.size, k * 10, none⟩ (.int .i64 (-1))) w1.heap.size (w1.heap.size + 1) w1.heap.size (qbs n (k + 1)) :=
     ⟨by rw [qav (by omega), ← qav hk]; exact (Below.heap_setCell _ _ _ _ hP.lo.2.2).trans hP.box, by rw [qav (by omega)]; exact h1, hP.lo, by rw [qav (by omega)]; omega⟩
    have HD2 := hid hD2; clear hP hb hs h1 hD2; go_wp2_with fail; exact ⟨⟨k + 1, by omega, by go_num, HD2.out, HBR.out.setCell (Nat.le_refl _) _⟩, by simp [intOf]; omega⟩
  · obtain rfl : k = n := by omega
    clear hP hb; go_wp2_with fail; go_ret2; have he : qbs k k = List.replicate k (qd3 (-1)) := by simp [qbs]
    exact ⟨rfl, by rw [← he]; exact HP.out, HBR.out⟩
end
end Go.Proofs.YtecikkjbnkhhkaaGreat
