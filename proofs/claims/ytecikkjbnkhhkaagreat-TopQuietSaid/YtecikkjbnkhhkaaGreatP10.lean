/- A part of the walk. -/
import Derived.Test.YtecikkjbnkhhkaaGreatP08
import Derived.Test.YtecikkjbnkhhkaaGreatP07
import Derived.Deep.OwnRows
namespace Go.Proofs.YtecikkjbnkhhkaaGreat
open _root_.Go.Proofs.Tryz
set_option maxHeartbeats 2000000
set_option maxRecDepth 100000
section
open Go.RowKit
def qx5 (l : List Bool) : List Value := l.map Value.bool
def clkC (now dur clo : Nat) (oc n : Nat) (noted left : List Bool) (step : Value) : List Value := [.int .u64 (now : Int), .int .u64 (dur : Int), .int .u64 (clo : Int), .slice (some ⟨oc, 0, none⟩) n n] ++ qx5 noted ++ qx5 left ++ [step]
structure qbi (w : World) (lo p oc now dur clo : Nat) (owed : List Int) (noted left : List Bool) (step : Value) : Prop where
 box : w.heap[p]? = some (.cells (clkC now dur clo oc owed.length noted left step).toArray 150 (0, 0))
 rows : w.heap[oc]? = some (.cells (owed.map (Value.int .i64)).toArray 3 (0, 0))
 lo : lo ≤ p ∧ lo ≤ oc ∧ p ≠ oc
 len : 1 ≤ owed.length ∧ owed.length ≤ 4 ∧ noted.length = 258 ∧ left.length = 258
section
variable {w : World} {lo p oc now dur clo : Nat} {owed : List Int} {noted left : List Bool} {step : Value}
theorem qbi.c0 (h : qbi w lo p oc now dur clo owed noted left step) : w.cell? ⟨p, 0, none⟩ = some (.int .u64 (now : Int)) := by rw [cell_of_row w p 0 _ _ _ h.box]; rfl
theorem qbi.c1 (h : qbi w lo p oc now dur clo owed noted left step) : w.cell? ⟨p, 1, none⟩ = some (.int .u64 (dur : Int)) := by rw [cell_of_row w p 1 _ _ _ h.box]; rfl
theorem qbi.c2 (h : qbi w lo p oc now dur clo owed noted left step) : w.cell? ⟨p, 2, none⟩ = some (.int .u64 (clo : Int)) := by rw [cell_of_row w p 2 _ _ _ h.box]; rfl
theorem qbi.c3 (h : qbi w lo p oc now dur clo owed noted left step) : w.cell? ⟨p, 3, none⟩ = some (.slice (some ⟨oc, 0, none⟩) owed.length owed.length) := by rw [cell_of_row w p 3 _ _ _ h.box]; rfl
theorem qbi.lt (h : qbi w lo p oc now dur clo owed noted left step) : p < w.heap.size := qa0 h.box
theorem qkh (h : qbi w lo p oc now dur clo owed noted left step) : Calls prog 41 #[.pointer (some ⟨p, 0, none⟩)] w fun e w' => e = .returned (.int .u64 (now : Int)) ∧ w' = w := by
 have hp := h.lt; have T := hid (qe7 p 0 (now : Int) w h.c0 hp); clear h; go_enter func41, ntmps41; go_wp2_with fail; refine T.out.mono ?_; rintro e w1 ⟨rfl, rfl⟩; go_wp2_with fail; go_ret; exact ⟨rfl, rfl⟩
theorem qx1 (h : qbi w lo p oc now dur clo owed noted left step) : Calls prog 42 #[.pointer (some ⟨p, 0, none⟩)] w fun e w' => e = .returned (.int .u64 (dur : Int)) ∧ w' = w := by
 have hp := h.lt; have T := hid (qe7 p 1 (dur : Int) w h.c1 hp); clear h; go_enter func42, ntmps42; go_wp2_with fail; refine T.out.mono ?_; rintro e w1 ⟨rfl, rfl⟩; go_wp2_with fail; go_ret; exact ⟨rfl, rfl⟩
theorem qbi.owe (h : qbi w lo p oc now dur clo owed noted left step) {t : Nat} (_ht : t < owed.length) (v : Int) : qbi (w.setCell ⟨oc, t, none⟩ (.int .i64 v)) lo p oc now dur clo (owed.set t v) noted left step := by
 refine ⟨by rw [List.length_set]; exact (Below.heap_setCell _ _ _ _ h.lo.2.2).trans h.box, ?_, h.lo, by rw [List.length_set]; exact h.len⟩; have := heap_setCell_same w oc t _ _ (.int .i64 v) h.rows; rw [this, List.map_set, List.setIfInBounds_toArray]
theorem qtm {now dur clo oc n : Nat} {noted left : List Bool} {step : Value} {i : Nat} (hi : i < noted.length) (v : Bool) : (clkC now dur clo oc n noted left step).set (4 + i) (.bool v) = clkC now dur clo oc n (noted.set i v) left step := by
 unfold clkC qx5; simp only [List.append_assoc]; rw [List.set_append_right _ _ (by simp), List.set_append_left _ _ (by simp; omega), List.map_set]; simp
theorem qbi.note (h : qbi w lo p oc now dur clo owed noted left step) {i : Nat} (hi : i < 258) : qbi (w.setCell ⟨p, 4 + i, none⟩ (.bool true)) lo p oc now dur clo owed (noted.set i true) left step := by
 refine ⟨?_, (Below.heap_setCell _ _ _ _ (Ne.symm h.lo.2.2)).trans h.rows, h.lo, by rw [List.length_set]; exact h.len⟩; have := heap_setCell_same w p (4 + i) _ _ (.bool true) h.box; rw [this, List.setIfInBounds_toArray, qtm (by have := h.len; omega)]
theorem qbi.atNote (h : qbi w lo p oc now dur clo owed noted left step) {i : Nat} (hi : i < 258) : ∃ b : Bool, w.cell? ⟨p, 4 + i, none⟩ = some (.bool b) ∧ w.frozen? ⟨p, 4 + i, none⟩ = false := by
 have hl := h.len; refine ⟨noted[i], ?_, frozen_of_row w p _ _ _ h.box⟩; rw [cell_of_row w p _ _ _ _ h.box, List.getElem?_toArray]; unfold clkC qx5; simp only [List.append_assoc]; rw [List.getElem?_append_right (by simp), List.getElem?_append_left (by simp; omega), List.getElem?_map]; simp only [List.length_cons, List.length_nil, Nat.add_sub_cancel_left]; rw [List.getElem?_eq_getElem (by omega)]; rfl
end
theorem qvw (w : World) (lo p oc now dur clo : Nat) (owed : List Int) (noted left : List Bool) (step : Value) (h : qbi w lo p oc now dur clo owed noted left step) (t i : Nat) (ht : t < owed.length) (hi : i < 258) : Calls prog 269 #[.pointer (some ⟨p, 0, none⟩), .int .i64 (t : Int), .int .i64 (i : Int)] w fun e w' => e = .returned (.int .i64 0) ∧ (∃ owed', owed'.length = owed.length ∧ qbi w' lo p oc now dur clo owed' (noted.set i true) left step) ∧ (∀ b, b ≠ p → b ≠ oc → w'.heap[b]? = w.heap[b]?) ∧ Below lo w w' := by
 have H := hid h; have hp := h.lt; have p3 := h.c3; have hoc := qa0 h.rows; have n0 : w.cell? ⟨oc, t, none⟩ = some (.int .i64 owed[t]) := by
  rw [cell_of_row w oc t _ _ _ h.rows, List.getElem?_toArray, List.getElem?_map, List.getElem?_eq_getElem ht]; rfl
 have f0 := frozen_of_row w oc t _ _ h.rows; obtain ⟨b0, m0, g0⟩ := h.atNote hi; have hpo := h.lo.2.2; have hlo := h.lo; have hti : (t : Int) < (owed.length : Int) := by omega
 have hii : (i : Int) < 258 := by omega
 clear h; generalize owed[t] = v at *; go_enter func269, ntmps269; go_wp2_with fail; go_ret; exact ⟨rfl, ⟨owed.set t _, by simp, (H.out.owe ht _).note hi⟩, (fun b h1 h2 => (Below.heap_setCell _ _ _ _ h1).trans (Below.heap_setCell _ _ _ _ h2)), ((Below.refl lo w).setCell hlo.2.1 _).setCell hlo.1 _⟩
end
section
open Go.RowKit
def intE (x : Int) : List Value := [.int .i64 x]
theorem qp2 (x : Int) : (intE x).length = 1 := rfl
theorem qwc (x : Int) : ∀ u ∈ intE x, u.oneCell' = true := by intro u hu; simp [intE] at hu; subst hu; rfl
theorem qzq {ops : Array Oper} {rest : List Oper} {o : Oper} {a : Act} {Q : Exit → Act → World → Prop} (w : World) (hgd : o.guard = none) (s x : Operand)
 (ho : o.op = .call { callee := .builtin .append, args := #[s, x], argTypes := #[23, 23] }) {lo : Nat} {A : Option Addr} {c : Nat} {l : List Int} (hs : a.eval s = .slice A l.length c) (own : Own intE 3 1 w lo A c l)
 {B : Nat} {A2 : Option Addr} {m : List Int} (c2 : Nat) (hx : a.eval x = .slice A2 m.length c2) (arr : Arr intE 1 w B A2 m) (hb : l.length + m.length ≤ 1000000) (hlo : lo ≤ w.heap.size)
 (h : ∀ A' c' w', Own intE 3 1 w' lo A' c' (l ++ m) → w.grownBy w' (qa8 A c) → (A' = A ∧ c' = c ∨ ∃ g, A' = some ⟨g, 0, none⟩ ∧ w.heap.size ≤ g) → wpList prog ops Q rest (a.put o.dst (.slice A' (l.length + m.length) c')) w') :
 wpList prog ops Q (o :: rest) a w := by
 obtain ⟨i0, hi, hz0, hz1, hz2⟩ := info_parts qk9; exact qar w hgd s x 23 ho i0 _ 8 underlying23 hi hz0 hz1 hz2 rfl (by decide) qp2 qwc hs own c2 hx arr (by unfold maxLen; omega) (by omega) hlo h
theorem qvr (w : World) (lo p oc now dur clo : Nat) (owed : List Int) (noted left : List Bool) (step : Value) (h : qbi w lo p oc now dur clo owed noted left step) : Calls prog 303 #[.pointer (some ⟨p, 0, none⟩)] w fun e w' => ∃ A c, e = .returned (.slice A owed.length c) ∧ Own intE 3 1 w' w.heap.size A c owed ∧ Below w.heap.size w w' := by
 have hp := h.lt; have p3 := h.c3; have hoc := qa0 h.rows; have hl := h.len; have hA : Arr intE 1 w w.heap.size (some ⟨oc, 0, none⟩) owed := by
  refine .inr ⟨oc, 0, rfl, hoc, fun i hi j u hu => ?_⟩; have hj : j = 0 := by
   have := (List.getElem?_eq_some_iff.1 hu).1; rw [qp2] at this; omega
  subst hj; rw [Nat.mul_one, Nat.add_zero, Nat.zero_add, cell_of_row w oc i _ _ _ h.rows, List.getElem?_toArray, List.getElem?_map, List.getElem?_eq_getElem hi]; simpa [intE] using hu
 have HA := hid hA; clear h hA; go_enter func303, ntmps303; go_wp2_with (at_builtin; refine qzq (l := []) (m := owed) _ rfl (.tmp 5) (.tmp 9) rfl rfl (Own.zero (lo := w.heap.size)) owed.length rfl (HA.out.below ((Below.refl _ w).alloc (Nat.le_refl _) _)) (by simp; omega) (by simp) ?_; intro A' c' w' hown hgr hloc); go_ret; refine ⟨A', c', by simp, by simpa using hown, ((Below.refl _ w).alloc (Nat.le_refl _) _).grown hgr (by simp) (fun k hk => ?_)⟩; simp [qa8] at hk
noncomputable def qhj : Value := Tryz.zeroCells150.getD 520 undef
theorem qww (oc n : Nat) : Tryz.zeroCells150.setIfInBounds 3 (.slice (some ⟨oc, 0, none⟩) n n) = (clkC 0 0 0 oc n (List.replicate 258 false) (List.replicate 258 false) qhj).toArray := by kernel_rfl
theorem qbi.setNow {w : World} {lo p oc now dur clo : Nat} {owed : List Int} {noted left : List Bool} {step : Value} (h : qbi w lo p oc now dur clo owed noted left step) (v : Nat) : qbi (w.setCell ⟨p, 0, none⟩ (.int .u64 (v : Int))) lo p oc v dur clo owed noted left step := by
 refine ⟨?_, (Below.heap_setCell _ _ _ _ (Ne.symm h.lo.2.2)).trans h.rows, h.lo, h.len⟩; rw [heap_setCell_same w p 0 _ _ (.int .u64 (v : Int)) h.box, List.setIfInBounds_toArray]; rfl
theorem qbi.setDur {w : World} {lo p oc now dur clo : Nat} {owed : List Int} {noted left : List Bool} {step : Value} (h : qbi w lo p oc now dur clo owed noted left step) (v : Nat) : qbi (w.setCell ⟨p, 1, none⟩ (.int .u64 (v : Int))) lo p oc now v clo owed noted left step := by
 refine ⟨?_, (Below.heap_setCell _ _ _ _ (Ne.symm h.lo.2.2)).trans h.rows, h.lo, h.len⟩; rw [heap_setCell_same w p 1 _ _ (.int .u64 (v : Int)) h.box, List.setIfInBounds_toArray]; rfl
theorem qqv (n : Nat) (w : World) (h1 : 1 ≤ n) (h2 : n ≤ 4) : Calls prog 70 #[.int .i64 (n : Int), .int .u64 0] w fun e w' => e = .returned (.tuple #[.pointer (some ⟨w.heap.size + 1, 0, none⟩), .int .i64 0]) ∧ qbi w' w.heap.size (w.heap.size + 1) w.heap.size 1 0 0 (List.replicate n 0) (List.replicate 258 false) (List.replicate 258 false) qhj ∧ Below w.heap.size w w' := by
 have g1 : ¬ (n : Int) < 1 := by omega
 have g2 : ¬ (4 : Int) < (n : Int) := by omega
 have MK := fun W => run_make_row' (P := prog) 23 3 (.int .i64 0) 8 underlying23 qk9 rfl .i64 .i64 n (by omega) (by omega) W
 go_enter func70, ntmps70; go_upto_region 6 with fail; have hmc : madeCells #[Value.int .i64 0] n = ((List.replicate n (0 : Int)).map (Value.int .i64)).toArray := by
  apply Array.ext'; rw [toList_madeCells_one, List.map_replicate]
 generalize hw2 : World.alloc (World.alloc w _) _ = w2; have HC : Hid (qbi w2 w.heap.size (w.heap.size + 1) w.heap.size 0 0 0 (List.replicate n 0) (List.replicate 258 false) (List.replicate 258 false) qhj) := hid (by
  refine ⟨?_, ?_, ⟨by omega, Nat.le_refl _, by omega⟩, by simp; omega⟩
  · rw [List.length_replicate, ← qww, ← hw2]
    exact (qa2 _ _ _).trans (by rw [if_pos (by simp)])
  · rw [← hmc, ← hw2]
    exact (Below.heap_alloc _ _ _ (by simp)).trans ((qa2 _ _ _).trans (if_pos rfl)))
 have b2 : Below w.heap.size w w2 := by rw [← hw2]; exact ((Below.refl _ _).alloc (Nat.le_refl _) _).alloc (by simp) _
 have HB := hid b2; have T1 := hid (qfn (w.heap.size + 1) 1 0 0 w2 HC.out.c1 (frozen_of_row w2 _ 1 _ _ HC.out.box) HC.out.lt); clear hw2 b2 hmc MK; generalize Tryz.zeroCells150.setIfInBounds 3 _ = zc; go_wp2_with fail; refine T1.out.mono ?_; rintro e w3 ⟨rfl, rfl⟩; have H3 := hid (HC.out.setDur 0); have T2 := hid (qfn (w.heap.size + 1) 0 0 1 _ H3.out.c0 (frozen_of_row _ _ 0 _ _ H3.out.box) H3.out.lt); go_wp2_with fail; refine T2.out.mono ?_; rintro e w4 ⟨rfl, rfl⟩; go_wp2_with fail; go_ret2; exact ⟨rfl, H3.out.setNow 1, (HB.out.setCell (by simp) _).setCell (by simp) _⟩
end
section
open Go.RowKit
theorem qdp {P : Program} {fn : Func} {p t : Tmp} {ty : TypeId} (h : fn.results = #[.cell p ty, .tmp t]) (tmps : Array Value) (w : World) (b : Nat) (cs : List Value) (d : TypeDesc)
 (hp : tmps.getD p undef = .pointer (some ⟨b, 0, none⟩)) (hc : w.rangeAt b 0 cs) (hu : P.underlying ty = some d) (hd : d.isRow = true) (hi : (P.info? ty).map (·.size) = some cs.length) : (results fn tmps).run P w = .ok (.tuple #[.agg cs.toArray, tmps.getD t undef]) w := by
 have hp' : tmps[p]?.getD undef = .pointer (some ⟨b, 0, none⟩) := by simpa using hp
 simp [results, h, hp', asAddr, run_loadVar_mid w b 0 ty cs d hc hu hd hi, Result.andThen]
theorem qb5 {w : World} {b : Nat} {cs : List Value} {t : TypeId} (h : w.heap[b]? = some (.cells cs.toArray t (0, 0))) : w.rangeAt b 0 cs := fun j v hv => by
 rw [Nat.zero_add, cell_of_row w b j _ _ _ h, List.getElem?_toArray]
 exact hv
theorem qsl : (prog.info? 85).map (·.size) = some 5 := by kernel_rfl
theorem qw8 : ∃ d, prog.underlying 85 = some d ∧ d.isRow = true := ⟨_, underlying85, rfl⟩
theorem qdq {fn : Func} {p t : Tmp} (h : fn.results = #[.cell p 85, .tmp t]) (tmps : Array Value) (w : World) (b : Nat) (x : qa3) (v : Value) (hp : tmps.getD p undef = .pointer (some ⟨b, 0, none⟩)) (ht : tmps.getD t undef = v)
 (hb : w.heap[b]? = some (.cells x.enc.toArray 85 (0, 0))) : (results fn tmps).run prog w = .ok (.tuple #[x.val, v]) w := by
 obtain ⟨d, h1, h2⟩ := qw8; rw [qdp h tmps w b x.enc d hp (qb5 hb) h1 h2 qsl, ht]; rfl
theorem qB3 {w : World} {b : Nat} {t : TypeId} {a c d e f a' c' d' e' f' : Value} (h : w.heap[b]? = some (.cells #[a, c, d, e, f] t (0, 0))) : (((((w.setCell ⟨b, 0, none⟩ a').setCell ⟨b, 1, none⟩ c').setCell ⟨b, 2, none⟩ d').setCell ⟨b, 3, none⟩ e').setCell ⟨b, 4, none⟩ f').heap[b]? = some (.cells #[a', c', d', e', f'] t (0, 0)) :=
 heap_setCell_same _ b 4 _ _ f' (heap_setCell_same _ b 3 _ _ e' (heap_setCell_same _ b 2 _ _ d' (heap_setCell_same _ b 1 _ _ c' (heap_setCell_same w b 0 _ _ a' h))))
theorem box5 {w : World} {b : Nat} {t : TypeId} {y x : qa3} (h : w.heap[b]? = some (.cells y.enc.toArray t (0, 0))) : (w.setCells b 0 x.enc).heap[b]? = some (.cells x.enc.toArray t (0, 0)) :=
 qB3 (a := .string y.key) (c := .int .u64 (y.id : Int)) (d := .int .u64 (y.ver : Int)) (e := .int .i64 y.line) (f := .int .i64 y.cls) h
end
section
open Go.RowKit
def tabC (mb : Nat → Nat) : List Value := [.map (some (mb 0)), .map (some (mb 1)), .map (some (mb 2)), .map (some (mb 3)), .map (some (mb 4)), .map (some (mb 5)), .map (some (mb 6)), .map (some (mb 7))]
structure qbk (F : Nat → Prop) (w : World) (tb : Nat) (mb : Nat → Nat) (B : Nat → List qa3) : Prop where
 box : w.heap[tb]? = some (.cells (tabC mb).toArray 198 (0, 0))
 map : ∀ i, i < 8 → MapL w (mb i) (B i)
 inj : ∀ i j, i < 8 → j < 8 → mb i = mb j → i = j
 bkt : ∀ i, i < 8 → ∀ x ∈ B i, bucket x.key = i ∧ x.key.size ≤ 1000000
 own : F tb ∧ ∀ i, i < 8 → F (mb i)
section
variable {F : Nat → Prop} {w w' : World} {tb : Nat} {mb : Nat → Nat} {B : Nat → List qa3}
theorem qbk.cell (h : qbk F w tb mb B) {i : Nat} (hi : i < 8) : w.cell? ⟨tb, i, none⟩ = some (.map (some (mb i))) := by
 rw [cell_of_row w tb i _ _ _ h.box]; rcases (by omega : i = 0 ∨ i = 1 ∨ i = 2 ∨ i = 3 ∨ i = 4 ∨ i = 5 ∨ i = 6 ∨ i = 7) with rfl | rfl | rfl | rfl | rfl | rfl | rfl | rfl <;> rfl
theorem qbk.lt (h : qbk F w tb mb B) : tb < w.heap.size := qa0 h.box
theorem qbk.same (h : qbk F w tb mb B) (h1 : w'.heap[tb]? = w.heap[tb]?) (h2 : ∀ i, i < 8 → w'.heap[mb i]? = w.heap[mb i]?) : qbk F w' tb mb B := ⟨h1.trans h.box, fun i hi => (h.map i hi).same (h2 i hi), h.inj, h.bkt, h.own⟩
theorem qbk.below (h : qbk F w tb mb B) (hb : Below w.heap.size w w') : qbk F w' tb mb B := h.same (hb.block _ h.lt) fun i hi => hb.block _ (h.map i hi).lt
theorem qbk.only {G : Nat → Prop} (h : qbk F w tb mb B) (ho : Only G w w') (hG : ∀ j, F j → ¬ G j) : qbk F w' tb mb B := h.same (ho.block _ h.lt (hG _ h.own.1)) fun i hi => ho.block _ (h.map i hi).lt (hG _ (h.own.2 i hi))
theorem qbk.mono {G : Nat → Prop} (h : qbk F w tb mb B) (hFG : ∀ j, F j → G j) : qbk G w tb mb B := ⟨h.box, h.map, h.inj, h.bkt, hFG _ h.own.1, fun i hi => hFG _ (h.own.2 i hi)⟩
theorem qb6 (s : ByteArray) : bucket s < 8 := Nat.mod_lt _ (by decide)
theorem qh4 (h : qbk F w tb mb B) (key : ByteArray) (hk : key.size ≤ 1000000) : Calls prog 325 #[.pointer (some ⟨tb, 0, none⟩), .string key] w fun e w' => e = .returned (.map (some (mb (bucket key)))) ∧ Below w.heap.size w w' := by
 have hb8 := qb6 key; have TB := fun W => qg9 key W hk
 obtain ⟨k, hk⟩ : ∃ k, k = bucket key := ⟨_, rfl⟩; rw [← hk] at hb8 TB ⊢; have hc := h.cell hb8; have hlt := h.lt; have hk8 : (k : Int) < 8 := by omega
 clear hk h; go_enter func325, ntmps325; go_wp2_with fail; go_region_with (go_at_call 240; refine (TB _).mono ?_; rintro e w1 ⟨rfl, rfl⟩); all_goals
  go_wp2_with fail; go_ret; exact ⟨rfl, (by repeat (first | exact Below.refl _ _ | assumption | refine Below.drew ?_ | refine qa1 ?_ _ | refine Below.alloc ?_ (by first | omega | simp <;> omega) _ | refine Below.setCell ?_ (by first | omega | simp <;> omega) _))⟩
theorem qpt (h : qbk F w tb mb B) (key : ByteArray) (hk : key.size ≤ 1000000) : Calls prog 339 #[.pointer (some ⟨tb, 0, none⟩), .string key] w fun e w' => e = .returned (.tuple #[((qd0 (B (bucket key)) key).getD qak).val, .bool (qd0 (B (bucket key)) key).isSome]) ∧ Below w.heap.size w w' := by
 have H := hid h; have HK := hid hk; have hb8 := qb6 key; clear h hk; obtain ⟨y, hy⟩ : ∃ y, y = (qd0 (B (bucket key)) key).getD qak := ⟨_, rfl⟩; obtain ⟨ok, hok⟩ : ∃ ok, ok = (qd0 (B (bucket key)) key).isSome := ⟨_, rfl⟩; have HXV := hid (show y.val = .agg #[.string y.key, .int .u64 (y.id : Int), .int .u64 (y.ver : Int), .int .i64 y.line, .int .i64 y.cls] from rfl); rw [← hy, ← hok]; go_enter func339, ntmps339; go_upto_region 1 with fail; generalize hw1 : World.alloc w _ = w1; have b1 : Below w.heap.size w w1 := by rw [← hw1]; exact (Below.refl _ _).alloc (Nat.le_refl _) _
 have R1 : w1.heap[w.heap.size]? = some (.cells qak.enc.toArray 85 (0, 0)) := by rw [← hw1]; exact (qa2 _ _ _).trans (if_pos rfl)
 have HR1 := hid R1; have HB1 := hid b1; have H1 := hid (H.out.below b1); have hl1 := qa0 R1; clear hw1 R1 b1; go_wp2_with fail; refine (qh4 H1.out key HK.out).mono ?_; rintro e w2 ⟨rfl, b2⟩; have H2 := hid (H1.out.below b2); have lk := qk6 (H2.out.map _ hb8) key; rw [← hy, ← hok, HXV.out] at lk; have R2 := (b2.block _ hl1).trans HR1.out; have f0 := frozen_of_row w2 _ 0 _ _ R2; have f1 := frozen_of_row w2 _ 1 _ _ R2; have f2 := frozen_of_row w2 _ 2 _ _ R2; have f3 := frozen_of_row w2 _ 3 _ _ R2; have f4 := frozen_of_row w2 _ 4 _ _ R2; have q0 := cell_of_row w2 _ 0 _ _ _ R2; have q1 := cell_of_row w2 _ 1 _ _ _ R2; have q2 := cell_of_row w2 _ 2 _ _ _ R2; have q3 := cell_of_row w2 _ 3 _ _ _ R2; have q4 := cell_of_row w2 _ 4 _ _ _ R2; simp only [qa3.enc, List.getElem?_toArray, List.getElem?_cons_zero, List.getElem?_cons_succ] at q0 q1 q2 q3 q4; have hl2 := qa0 R2; have HB2 := hid (HB1.out.trans (b2.mono HB1.out.size)); have HY := hid hy; have HOKK := hid hok; have HR2 := hid R2; clear R2 b2 H1 H2 hy hok; go_wp2_with fail; refine bodyPost_ret (v := .tuple #[y.val, .bool ok]) (qdq results339 _ _ w.heap.size y _ (by simp) (by simp) ?_) rfl ⟨rfl, ?_⟩
 · exact (Below.heap_alloc _ _ _ (by simp; exact hl2)).trans (box5 HR2.out)
 · exact ((((((HB2.out.setCell (p := ⟨w.heap.size, 0, none⟩) (Nat.le_refl _) _).setCell (p := ⟨w.heap.size, 1, none⟩) (Nat.le_refl _) _).setCell (p := ⟨w.heap.size, 2, none⟩) (Nat.le_refl _) _).setCell (p := ⟨w.heap.size, 3, none⟩) (Nat.le_refl _) _).setCell (p := ⟨w.heap.size, 4, none⟩) (Nat.le_refl _) _).alloc (by simp; exact HB2.out.size) _)
end
end
section
open Go.RowKit
def qoi (N k : Nat) : List Value := [.map (if 0 < k then some (N + 1 + 0) else none), .map (if 1 < k then some (N + 1 + 1) else none), .map (if 2 < k then some (N + 1 + 2) else none), .map (if 3 < k then some (N + 1 + 3) else none), .map (if 4 < k then some (N + 1 + 4) else none), .map (if 5 < k then some (N + 1 + 5) else none), .map (if 6 < k then some (N + 1 + 6) else none), .map (if 7 < k then some (N + 1 + 7) else none)]
theorem qms {N k : Nat} (hk : k < 8) : (qoi N k).set k (.map (some (N + 1 + k))) = qoi N (k + 1) := by
 rcases (by omega : k = 0 ∨ k = 1 ∨ k = 2 ∨ k = 3 ∨ k = 4 ∨ k = 5 ∨ k = 6 ∨ k = 7) with rfl | rfl | rfl | rfl | rfl | rfl | rfl | rfl <;> rfl
theorem qin {N k : Nat} (hk : k < 8) : (qoi N k)[k]? = some (.map none) := by
 rcases (by omega : k = 0 ∨ k = 1 ∨ k = 2 ∨ k = 3 ∨ k = 4 ∨ k = 5 ∨ k = 6 ∨ k = 7) with rfl | rfl | rfl | rfl | rfl | rfl | rfl | rfl <;> rfl
structure qBa (N k : Nat) (w wr : World) : Prop where
 row : wr.heap[N]? = some (.cells (qoi N k).toArray 198 (0, 0))
 maps : ∀ i, i < k → wr.heap[N + 1 + i]? = some (.map #[] 0)
 size : wr.heap.size = N + 1 + k
 below : Below N w wr
theorem qse (W : World) : (Instr.makeMap 195 none).run prog W = .ok (.map (some W.heap.size)) (W.alloc (.map #[] 0)) := by kernel_rfl
theorem qzf (W : World) (m : Nat) : (binOp .eql 195 (.map (some m)) (.map none)).run prog W = .ok (.bool false) W := by kernel_rfl
theorem qps (w : World) : Calls prog 74 #[] w fun e w' => e = .returned (.pointer (some ⟨w.heap.size, 0, none⟩)) ∧ qbk (fun _ => True) w' w.heap.size (fun i => w.heap.size + 1 + i) (fun _ => []) ∧ Below w.heap.size w w' := by
 go_enter func74, ntmps74; go_wp2_with fail; go_loopw [2, 5] (fun _ v5 wr => ∃ k : Nat, k ≤ 8 ∧ v5 = .int .i64 k ∧ qBa w.heap.size k w wr) (fun _ v5 _ => 8 - (intOf v5).toNat)
 case atStart => exact ⟨0, by omega, rfl, ⟨(qa2 _ _ _).trans (if_pos rfl), fun i h => absurd h (by omega), by simp, (Below.refl _ _).alloc (Nat.le_refl _) _⟩⟩
 case round =>
  obtain ⟨k, hk, rfl, hN⟩ := hrel; by_cases hlt : k < 8
  · have hki : (k : Int) < 8 := by omega
    have c0 := cell_of_row wr _ k _ _ _ hN.row; rw [List.getElem?_toArray, qin hlt] at c0; have f0 := frozen_of_row wr _ k _ _ hN.row; have hlw := qa0 hN.row; have HN := hid hN; have MM := qse wr; have hsz := hN.size; obtain ⟨w1, hw1⟩ : ∃ w1, w1 = wr.alloc (.map #[] 0) := ⟨_, rfl⟩; rw [← hw1] at MM; have hs1 : w1.heap.size = wr.heap.size + 1 := by rw [hw1]; simp
    have ho1 : ∀ j, j < wr.heap.size → w1.heap[j]? = wr.heap[j]? := fun j hj => by rw [hw1]; exact Below.heap_alloc _ _ _ hj
    have hm1 : w1.heap[wr.heap.size]? = some (.map #[] 0) := by rw [hw1, qa2, if_pos rfl]
    have hb1 : Below w.heap.size w w1 := by rw [hw1]; exact hN.below.alloc (by omega) _
    have R1 := (ho1 _ hlw).trans HN.out.row; have c1 := cell_of_row w1 _ k _ _ _ R1; rw [List.getElem?_toArray, qin hlt] at c1; have f1 := frozen_of_row w1 _ k _ _ R1; have HH := hid (And.intro ho1 (And.intro hm1 hb1)); have HR1 := hid R1; clear hN hw1 ho1 hm1 hb1 R1 c0 f0; go_wp2_with fail; refine ⟨⟨k + 1, by omega, by go_num, ⟨?_, fun i hi => ?_, ?_, ?_⟩⟩, by simp [intOf]; omega⟩
    · have := heap_setCell_same w1 w.heap.size k _ _ (.map (some (w.heap.size + 1 + k))) HR1.out
      rw [this, ← qms hlt]; simp
    · rw [Below.heap_setCell _ _ _ _ (by simp; omega)]
      by_cases hik : i = k
      · subst hik
        rw [← hsz]; exact HH.out.2.1
      · rw [HH.out.1 _ (by omega)]
        exact HN.out.maps i (by omega)
    · simp; omega
    · exact HH.out.2.2.setCell (p := ⟨w.heap.size, k, none⟩) (Nat.le_refl _) _
  · obtain rfl : k = 8 := by omega
    have HN := hid hN; clear hN; go_wp2_with fail; go_ret; refine ⟨rfl, ⟨HN.out.row, fun i hi => ⟨#[], 0, HN.out.maps i hi, MpL.nil⟩, fun i j _ _ h => by omega, fun i _ x hx => by simp at hx, trivial, fun _ _ => trivial⟩, HN.out.below⟩
def updB (B : Nat → List qa3) (k : Nat) (L : List qa3) : Nat → List qa3 := fun j => if j = k then L else B j
section
variable {F : Nat → Prop} {w w' : World} {tb : Nat} {mb : Nat → Nat} {B : Nat → List qa3}
theorem qoq {L : List qa3} {x y : qa3} (h : y ∈ setM L x) : y = x ∨ y ∈ L := by
 unfold setM at h; split at h
 · rcases List.mem_or_eq_of_mem_set h with h | h
   · exact .inr h
   · exact .inl h
 · rcases List.mem_append.1 h with h | h
   · exact .inr h
   · exact .inl (by simpa using h)
theorem qor {L : List qa3} {key : ByteArray} {y : qa3} (h : y ∈ delM L key) : y ∈ L := by
 unfold delM at h; split at h
 · exact List.mem_of_mem_eraseIdx h
 · exact h
theorem qbk.upd (h : qbk F w tb mb B) {k : Nat} (hk : k < 8) {L : List qa3} (hm : MapL w' (mb k) L) (hs : ∀ j, j < w.heap.size → j ≠ mb k → w'.heap[j]? = w.heap[j]?) (hL : ∀ x ∈ L, bucket x.key = k ∧ x.key.size ≤ 1000000) : qbk F w' tb mb (updB B k L) := by
 have hne : tb ≠ mb k := fun h0 => by
  obtain ⟨es, clock, h1, _⟩ := h.map k hk; rw [← h0, h.box] at h1; cases h1
 refine ⟨(hs tb h.lt hne).trans h.box, fun i hi => ?_, h.inj, fun i hi x hx => ?_, h.own⟩
 · unfold updB
   by_cases hik : i = k
   · subst hik; rw [if_pos rfl]; exact hm
   · rw [if_neg hik]
     exact (h.map i hi).same (hs _ (h.map i hi).lt fun h0 => hik (h.inj i k hi hk h0))
 · unfold updB at hx
   by_cases hik : i = k
   · subst hik; rw [if_pos rfl] at hx; exact hL x hx
   · rw [if_neg hik] at hx; exact h.bkt i hi x hx
def qpf (F : Nat → Prop) (tb : Nat) (mb : Nat → Nat) (B : Nat → List qa3) (k : Nat) (v : Value) (w : World) (e : Ending) (w' : World) : Prop := e = .returned v ∧ qbk F w' tb mb B ∧ Only (fun j => j = mb k) w w'
theorem qpr (h : qbk F w tb mb B) (x : qa3) (hk : x.key.size ≤ 1000000) : Calls prog 280 #[.pointer (some ⟨tb, 0, none⟩), x.val] w (qpf F tb mb (updB B (bucket x.key) (setM (B (bucket x.key)) x)) (bucket x.key) (.bool (qd0 (B (bucket x.key)) x.key).isSome) w) := by
 have H := hid h; have HK := hid hk; have hb8 := qb6 x.key; clear h hk; obtain ⟨k, hk⟩ : ∃ k, k = bucket x.key := ⟨_, rfl⟩; rw [← hk] at hb8 ⊢; have HKK := hid hk; clear hk; obtain ⟨y, hy⟩ : ∃ y, y = (qd0 (B k) x.key).getD qak := ⟨_, rfl⟩; obtain ⟨ok, hok⟩ : ∃ ok, ok = (qd0 (B k) x.key).isSome := ⟨_, rfl⟩; have HYV := hid (show y.val = .agg #[.string y.key, .int .u64 (y.id : Int), .int .u64 (y.ver : Int), .int .i64 y.line, .int .i64 y.cls] from rfl); have HXV := hid (show x.val = .agg #[.string x.key, .int .u64 (x.id : Int), .int .u64 (x.ver : Int), .int .i64 x.line, .int .i64 x.cls] from rfl); rw [← hok]; rw [HXV.out]; go_enter func280, ntmps280; go_upto_region 1 with fail; generalize hw1 : World.alloc w _ = w1; have b1 : Below w.heap.size w w1 := by rw [← hw1]; exact (Below.refl _ _).alloc (Nat.le_refl _) _
 have R1 : w1.heap[w.heap.size]? = some (.cells x.enc.toArray 85 (0, 0)) := by rw [← hw1]; exact (qa2 _ _ _).trans (if_pos rfl)
 have HR1 := hid R1; have HB1 := hid b1; have H1 := hid (H.out.below b1); have hl1 := qa0 R1; have r0 := cell_of_row w1 _ 0 _ _ _ R1; have r1 := cell_of_row w1 _ 1 _ _ _ R1; have r2 := cell_of_row w1 _ 2 _ _ _ R1; have r3 := cell_of_row w1 _ 3 _ _ _ R1; have r4 := cell_of_row w1 _ 4 _ _ _ R1; simp only [qa3.enc, List.getElem?_toArray, List.getElem?_cons_zero, List.getElem?_cons_succ] at r0 r1 r2 r3 r4; clear hw1 R1 b1; go_wp2_with fail; refine (qh4 H1.out x.key HK.out).mono ?_; rintro e w2 ⟨rfl, b2⟩; rw [← HKK.out]; have H2 := hid (H1.out.below b2); have HB2 := hid (HB1.out.trans (b2.mono HB1.out.size)); have R2 := (b2.block _ hl1).trans HR1.out; have lk := qk6 (H2.out.map _ hb8) x.key; rw [← hy, ← hok, HYV.out] at lk; have q0 := cell_of_row w2 _ 0 _ _ _ R2; have q1 := cell_of_row w2 _ 1 _ _ _ R2; have q2 := cell_of_row w2 _ 2 _ _ _ R2; have q3 := cell_of_row w2 _ 3 _ _ _ R2; have q4 := cell_of_row w2 _ 4 _ _ _ R2; simp only [qa3.enc, List.getElem?_toArray, List.getElem?_cons_zero, List.getElem?_cons_succ] at q0 q1 q2 q3 q4; have hl2 := qa0 R2; have HR2 := hid R2; have HY := hid hy; have HOKK := hid hok; clear R2 b2 H1 hy hok r0 r1 r2 r3 r4; have b3 : Below w2.heap.size w2 (w2.alloc (.cells #[.string y.key, .int .u64 (y.id : Int), .int .u64 (y.ver : Int), .int .i64 y.line, .int .i64 y.cls] 85)) := (Below.refl _ _).alloc (Nat.le_refl _) _; have H3 := hid (H2.out.below b3); have HB3 := hid (HB2.out.trans (b3.mono HB2.out.size)); obtain ⟨w4, hput, hmap, hgr, hsz⟩ := qA8 (H3.out.map _ hb8) x; rw [HXV.out] at hput; have HM := hid hmap; have HG := hid hgr; have HSZ := hid hsz; have EQ := fun W : World => qzf W (mb k)
 clear b3 hmap hgr hsz; go_wp2_with fail; go_ret; have hs := HSZ.out; refine ⟨rfl, H3.out.upd hb8 HM.out (fun j hj hne => HG.out.block j hj (by simpa using hne)) fun z hz => ?_, ⟨HG.out.os.trans HB3.out.os, HG.out.tape.trans HB3.out.tape, HG.out.output.trans HB3.out.output, by have := HB3.out.size; omega, fun j hj hne => (HG.out.block j (by have := HB3.out.size; omega) (by simpa using hne)).trans (HB3.out.block j hj)⟩⟩; rcases qoq hz with rfl | hz
 · exact ⟨HKK.out.symm, HK.out⟩
 · exact H3.out.bkt k hb8 z hz
theorem qmt (h : qbk F w tb mb B) (key : ByteArray) (hk : key.size ≤ 1000000) : Calls prog 344 #[.pointer (some ⟨tb, 0, none⟩), .string key] w (qpf F tb mb (updB B (bucket key) (delM (B (bucket key)) key)) (bucket key) (.tuple #[((qd0 (B (bucket key)) key).getD qak).val, .bool (qd0 (B (bucket key)) key).isSome]) w) := by
 have H := hid h; have HK := hid hk; have hb8 := qb6 key; clear h hk; obtain ⟨k, hk⟩ : ∃ k, k = bucket key := ⟨_, rfl⟩; rw [← hk] at hb8 ⊢; have HKK := hid hk; clear hk; obtain ⟨y, hy⟩ : ∃ y, y = (qd0 (B k) key).getD qak := ⟨_, rfl⟩; obtain ⟨ok, hok⟩ : ∃ ok, ok = (qd0 (B k) key).isSome := ⟨_, rfl⟩; have HYV := hid (show y.val = .agg #[.string y.key, .int .u64 (y.id : Int), .int .u64 (y.ver : Int), .int .i64 y.line, .int .i64 y.cls] from rfl); rw [← hok, ← hy]; go_enter func344, ntmps344; go_upto_region 1 with fail; generalize hw1 : World.alloc w _ = w1; have b1 : Below w.heap.size w w1 := by rw [← hw1]; exact (Below.refl _ _).alloc (Nat.le_refl _) _
 have R1 : w1.heap[w.heap.size]? = some (.cells qak.enc.toArray 85 (0, 0)) := by rw [← hw1]; exact (qa2 _ _ _).trans (if_pos rfl)
 have HR1 := hid R1; have HB1 := hid b1; have H1 := hid (H.out.below b1); have hl1 := qa0 R1; clear hw1 R1 b1; go_wp2_with fail; refine (qh4 H1.out key HK.out).mono ?_; rintro e w2 ⟨rfl, b2⟩; rw [← HKK.out]; have H2 := hid (H1.out.below b2); have HB2 := hid (HB1.out.trans (b2.mono HB1.out.size)); have R2 := (b2.block _ hl1).trans HR1.out; have lk := qk6 (H2.out.map _ hb8) key; rw [← hy, ← hok, HYV.out] at lk; have hl2 := qa0 R2; have HR2 := hid R2; clear R2 b2 H1 hy hok; have b3 : Below w2.heap.size w2 (w2.alloc (.cells #[.string y.key, .int .u64 (y.id : Int), .int .u64 (y.ver : Int), .int .i64 y.line, .int .i64 y.cls] 85)) := (Below.refl _ _).alloc (Nat.le_refl _) _; have H3 := hid (H2.out.below b3); have HB3 := hid (HB2.out.trans (b3.mono HB2.out.size)); have mk2 : mb k < w2.heap.size := (H2.out.map _ hb8).lt; have mkw : mb k < w.heap.size := (H.out.map _ hb8).lt; obtain ⟨w4, hput, hmap, hgr, hsz⟩ := qB1 (H3.out.map _ hb8) key 0; have RY4 : w4.heap[w2.heap.size]? = some (.cells y.enc.toArray 85 (0, 0)) := (hgr.block _ (by simp) (by simp; omega)).trans ((qa2 _ _ _).trans (if_pos rfl)); have R4 : w4.heap[w.heap.size]? = some (.cells qak.enc.toArray 85 (0, 0)) := (hgr.block _ (by simp; omega) (by simp; omega)).trans ((Below.heap_alloc _ _ _ hl2).trans HR2.out); have HM := hid hmap; have HG := hid hgr; have HSZ := hid hsz; have HR4 := hid R4; have q0 := cell_of_row w4 _ 0 _ _ _ R4; have q1 := cell_of_row w4 _ 1 _ _ _ R4; have q2 := cell_of_row w4 _ 2 _ _ _ R4; have q3 := cell_of_row w4 _ 3 _ _ _ R4; have q4 := cell_of_row w4 _ 4 _ _ _ R4; simp only [qa3.enc, List.getElem?_toArray, List.getElem?_cons_zero, List.getElem?_cons_succ] at q0 q1 q2 q3 q4; have f0 := frozen_of_row w4 _ 0 _ _ R4; have f1 := frozen_of_row w4 _ 1 _ _ R4; have f2 := frozen_of_row w4 _ 2 _ _ R4; have f3 := frozen_of_row w4 _ 3 _ _ R4; have f4 := frozen_of_row w4 _ 4 _ _ R4; have r0 := cell_of_row w4 _ 0 _ _ _ RY4; have r1 := cell_of_row w4 _ 1 _ _ _ RY4; have r2 := cell_of_row w4 _ 2 _ _ _ RY4; have r3 := cell_of_row w4 _ 3 _ _ _ RY4; have r4 := cell_of_row w4 _ 4 _ _ _ RY4; simp only [qa3.enc, List.getElem?_toArray, List.getElem?_cons_zero, List.getElem?_cons_succ] at r0 r1 r2 r3 r4; have hl4 := qa0 R4; have hly4 := qa0 RY4; clear b3 hmap hgr hsz R4 RY4; have HO8 : Hid (∀ j, j ≠ w.heap.size → (w4.setCells w.heap.size 0 y.enc).heap[j]? = w4.heap[j]?) := hid fun j hj => qaa _ _ _ _ j hj
 go_wp2_with fail; have hall : ∀ j, j < w.heap.size → j ≠ mb k → (w4.setCells w.heap.size 0 y.enc).heap[j]? = w.heap[j]? := fun j hj hne =>
  (HO8.out j (by omega)).trans ((HG.out.block j (by have := HB2.out.size; simp; omega) (by simpa using hne)).trans ((Below.heap_alloc _ _ _ (by have := HB2.out.size; omega)).trans (HB2.out.block j hj)))
 have hss := HSZ.out; have hb2 := HB2.out.size; simp only [World.size_alloc] at hss; have hsm := HO8; refine bodyPost_ret (v := .tuple #[y.val, .bool ok]) (qdq results344 _ _ w.heap.size y _ (by simp) (by simp) (box5 HR4.out)) rfl ⟨rfl, ?_, ?_⟩
 · exact H.out.upd hb8 (HM.out.same (HO8.out _ (by omega))) hall fun z hz => H.out.bkt k hb8 z (qor hz)
 · obtain ⟨h1, h2, h3, h4⟩ := qam w.heap.size y.enc 0 w4
   exact ⟨h1.trans (HG.out.os.trans HB3.out.os), h2.trans (HG.out.tape.trans HB3.out.tape), h3.trans (HG.out.output.trans HB3.out.output), by show w.heap.size ≤ (w4.setCells w.heap.size 0 y.enc).heap.size; omega, hall⟩
end
end
end Go.Proofs.YtecikkjbnkhhkaaGreat
