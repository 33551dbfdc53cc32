/- The statement OrderScript: the walk. -/
import Derived.Test.YthadifbbepcdiaaOTab3
import Derived.Deep.CutBlock
import Derived.Deep.DeepCutAuto
namespace Go.Proofs.Ythadifbbepcdiaa
open Go.RowKit

theorem rightL_no {lv : Nat → List Link} {level : Int} {pos : ByteArray} {past : Bool} (h : ¬ (1 ≤ level ∧ level ≤ 4)) : rightL lv level pos past = none := by unfold rightL; rw [if_neg h]
theorem right_all {F : Nat → Prop} {L : List Link} {ob : Nat} (level : Int) (pos : ByteArray) (past : Bool) (w : World) (h : Ord F w ob (atLv L)) (hr : Rise L) (hlen : L.length ≤ 1000) : Calls Try.prog 11 #[.pointer (some ⟨ob, 0, none⟩), .int .i64 level, .string pos, .bool past] w fun e w' => e = .returned (rightV (refRight L level pos past)) ∧ Below w.heap.size w w' := by
  rw [refRight_eq]
  by_cases hl : 1 ≤ level ∧ level ≤ 4
  · obtain ⟨k, hk⟩ : ∃ k : Nat, level = (k : Int) + 1 := ⟨(level - 1).toNat, by omega⟩
    have e : rightL (atLv L) level pos past = rightIn (atLv L k) pos past := by
      unfold rightL
      rw [if_pos hl, show (level - 1).toNat = k by omega]
    rw [e]
    have := lv_len L k
    exact right_at (k := k) (by omega) level hk pos past w h (rise_lv hr k) (by omega)
  · rw [rightL_no hl]
    exact right_out level (by omega) pos past w

/-- an order and a table that lie apart, in blocks of E -/
def Pair2 (E : Nat → Prop) (w : World) (ob tb : Nat) (LO LT : List Link) : Prop := (∀ j, w.heap.size ≤ j → E j) ∧ ∃ F G : Nat → Prop, Ord F w ob (atLv LO) ∧ Tab G w tb LT ∧ (∀ j, F j → G j → False) ∧ (∀ j, F j → E j) ∧ (∀ j, G j → E j)
theorem Pair2.below {E : Nat → Prop} {w w' : World} {ob tb : Nat} {LO LT : List Link} (h : Pair2 E w ob tb LO LT) (hb : Below w.heap.size w w') : Pair2 E w' ob tb LO LT := by
  obtain ⟨h0, F, G, h1, h2, h3, h4, h5⟩ := h
  exact ⟨fun j hj => h0 j (Nat.le_trans hb.size hj), F, G, h1.below hb, h2.below hb, h3, h4, h5⟩
theorem Pair2.outer {E E2 : Nat → Prop} {w : World} {ob tb : Nat} {LO LT : List Link} (h : Pair2 E w ob tb LO LT) (hE : ∀ j, E j → E2 j) : Pair2 E2 w ob tb LO LT := by
  obtain ⟨h0, F, G, h1, h2, h3, h4, h5⟩ := h
  exact ⟨fun j hj => hE j (h0 j hj), F, G, h1, h2, h3, fun j hj => hE j (h4 j hj), fun j hj => hE j (h5 j hj)⟩
/-- three blocks are laid that neither will write -/
theorem Pair2.inner {B : Nat} {w W : World} {ob tb : Nat} {LO LT : List Link} (h : Pair2 (fun j => B ≤ j) w ob tb LO LT) (hb : Below w.heap.size w W) (hs : W.heap.size = w.heap.size + 3) : Pair2 (fun j => B ≤ j ∧ (j < w.heap.size ∨ w.heap.size + 3 ≤ j)) W ob tb LO LT := by
  obtain ⟨h0, F, G, h1, h2, h3, h4, h5⟩ := h
  exact ⟨fun j hj => ⟨h0 j (by omega), .inr (by omega)⟩, fun j => F j ∧ j < w.heap.size, fun j => G j ∧ j < w.heap.size, h1.trim.below hb, h2.trim.below hb, fun j hf hg => h3 j hf.1 hg.1, fun j hj => ⟨h4 j hj.1, .inl hj.2⟩, fun j hj => ⟨h5 j hj.1, .inl hj.2⟩⟩
theorem Pair2.ord {E : Nat → Prop} {w : World} {ob tb : Nat} {LO LT : List Link} (h : Pair2 E w ob tb LO LT) : ∃ F, Ord F w ob (atLv LO) := by
  obtain ⟨h0, F, G, h1, h2, h3, h4, h5⟩ := h
  exact ⟨F, h1⟩
theorem Pair2.tab {E : Nat → Prop} {w : World} {ob tb : Nat} {LO LT : List Link} (h : Pair2 E w ob tb LO LT) : ∃ G, Tab G w tb LT := by
  obtain ⟨h0, F, G, h1, h2, h3, h4, h5⟩ := h
  exact ⟨G, h2⟩
theorem Pair2.off {E : Nat → Prop} {w w' : World} {ob tb : Nat} {LO LT : List Link} (h : Pair2 E w ob tb LO LT) (ho : Only (fun j => ¬ E j) w w') : Pair2 E w' ob tb LO LT := by
  obtain ⟨h0, F, G, h1, h2, h3, h4, h5⟩ := h
  exact ⟨fun j hj => h0 j (Nat.le_trans ho.size hj), F, G, h1.only ho fun j hj hn => hn (h4 j hj), h2.only ho fun j hj hn => hn (h5 j hj), h3, h4, h5⟩
theorem Only.set5 {F : Nat → Prop} {w w' : World} {b : Nat} (h : Only F w w') (hb : F b) (u0 u1 u2 u3 u4 : Value) : Only F w (((((w'.setCell ⟨b, 0, none⟩ u0).setCell ⟨b, 1, none⟩ u1).setCell ⟨b, 2, none⟩ u2).setCell ⟨b, 3, none⟩ u3).setCell ⟨b, 4, none⟩ u4) :=
  ((((h.setCell _ _ hb).setCell _ _ hb).setCell _ _ hb).setCell _ _ hb).setCell _ _ hb
section
variable {E F G : Nat → Prop} {W w' : World} {ob tb : Nat} {LO LO' LT LT' : List Link} (hE : ∀ j, W.heap.size ≤ j → E j) (ho : Ord F W ob (atLv LO)) (ht : Tab G W tb LT) (hd : ∀ j, F j → G j → False) (hF : ∀ j, F j → E j) (hG : ∀ j, G j → E j)
include hE ho ht hd hF hG
omit ho in
theorem half_order (hn : Ord (fun j => (F j ∧ j < W.heap.size) ∨ W.heap.size ≤ j) w' ob (atLv LO')) (hon : Only (fun j => (F j ∧ j < W.heap.size) ∨ W.heap.size ≤ j) W w') : Pair2 E w' ob tb LO' LT ∧ Only E W w' := by
  refine ⟨⟨fun j hj => hE j (Nat.le_trans hon.size hj), _, fun j => G j ∧ j < W.heap.size, hn, ht.trim.only hon fun j hj hf => ?_, fun j hf hg => ?_, fun j hj => ?_, fun j hj => hG j hj.1⟩, hon.mono fun j hj => ?_⟩
  · rcases hf with hf | hf
    · exact hd j hf.1 hj.1
    · omega
  · rcases hf with hf | hf
    · exact hd j hf.1 hg.1
    · omega
  · rcases hj with hj | hj
    · exact hF j hj.1
    · exact hE j hj
  · rcases hj with hj | hj
    · exact hF j hj.1
    · exact hE j hj
omit ht in
theorem half_table (hn : Tab (fun j => (G j ∧ j < W.heap.size) ∨ W.heap.size ≤ j) w' tb LT') (hon : Only (fun j => (G j ∧ j < W.heap.size) ∨ W.heap.size ≤ j) W w') : Pair2 E w' ob tb LO LT' ∧ Only E W w' := by
  refine ⟨⟨fun j hj => hE j (Nat.le_trans hon.size hj), fun j => F j ∧ j < W.heap.size, _, ho.trim.only hon fun j hj hf => ?_, hn, fun j hf hg => ?_, fun j hj => hF j hj.1, fun j hj => ?_⟩, hon.mono fun j hj => ?_⟩
  · rcases hf with hf | hf
    · exact hd j hj.1 hf.1
    · omega
  · rcases hg with hg | hg
    · exact hd j hf.1 hg.1
    · omega
  · rcases hj with hj | hj
    · exact hG j hj.1
    · exact hE j hj
  · rcases hj with hj | hj
    · exact hG j hj.1
    · exact hE j hj
end
theorem oset2 {E : Nat → Prop} {LO LT : List Link} {ob tb : Nat} (x : Link) (w : World) (h : Pair2 E w ob tb LO LT) (hr : Rise LO) (hlen : LO.length ≤ 1000) (hkey : x.key.size ≤ 1000000) :
    Calls Try.prog 14 #[.pointer (some ⟨ob, 0, none⟩), .agg #[.string x.key, .int .u64 x.id, .int .u64 x.ver, .int .i64 x.line, .int .i64 x.cls]] w fun e w' => e = .returned (.bool (hasL LO x.key)) ∧ Pair2 E w' ob tb (setL LO x) LT ∧ Only E w w' := by
  obtain ⟨h0, F, G, h1, h2, h3, h4, h5⟩ := h
  refine (set_any (F := fun j => (F j ∧ j < w.heap.size) ∨ w.heap.size ≤ j) x w (h1.trim.mono fun j hj => .inl hj) (fun j hj => .inr hj) hr hlen hkey).mono ?_
  rintro e w' ⟨rfl, hn, hon⟩
  exact ⟨rfl, half_order h0 h2 h3 h4 h5 hn hon⟩
theorem odrop2 {E : Nat → Prop} {LO LT : List Link} {ob tb : Nat} (key : ByteArray) (w : World) (h : Pair2 E w ob tb LO LT) (hr : Rise LO) (hlen : LO.length ≤ 1000) (hkey : key.size ≤ 1000000) :
    Calls Try.prog 16 #[.pointer (some ⟨ob, 0, none⟩), .string key] w fun e w' => e = .returned (.bool (hasL LO key)) ∧ Pair2 E w' ob tb (dropL LO key) LT ∧ Only E w w' := by
  obtain ⟨h0, F, G, h1, h2, h3, h4, h5⟩ := h
  refine (drop_any (F := fun j => (F j ∧ j < w.heap.size) ∨ w.heap.size ≤ j) key w (h1.trim.mono fun j hj => .inl hj) (fun j hj => .inr hj) hr hlen hkey).mono ?_
  rintro e w' ⟨rfl, hn, hon⟩
  exact ⟨rfl, half_order h0 h2 h3 h4 h5 hn hon⟩
theorem tset2 {E : Nat → Prop} {LO LT : List Link} {ob tb : Nat} (x : Link) (w : World) (h : Pair2 E w ob tb LO LT) (hr : Rise LT) (hlen : LT.length ≤ 1000) :
    Calls Try.prog 15 #[.pointer (some ⟨tb, 0, none⟩), .agg #[.string x.key, .int .u64 x.id, .int .u64 x.ver, .int .i64 x.line, .int .i64 x.cls]] w fun e w' => e = .returned (.bool (hasL LT x.key)) ∧ Pair2 E w' ob tb LO (setL LT x) ∧ Only E w w' := by
  obtain ⟨h0, F, G, h1, h2, h3, h4, h5⟩ := h
  refine (tset_any (G := fun j => (G j ∧ j < w.heap.size) ∨ w.heap.size ≤ j) x w (h2.trim.mono fun j hj => .inl hj) (fun j hj => .inr hj) hr hlen).mono ?_
  rintro e w' ⟨rfl, hn, hon⟩
  exact ⟨rfl, half_table h0 h1 h3 h4 h5 hn hon⟩
theorem tdrop2 {E : Nat → Prop} {LO LT : List Link} {ob tb : Nat} (key : ByteArray) (w : World) (h : Pair2 E w ob tb LO LT) (hlen : LT.length ≤ 1000) :
    Calls Try.prog 17 #[.pointer (some ⟨tb, 0, none⟩), .string key] w fun e w' => e = .returned (rightV (lookL LT key)) ∧ Pair2 E w' ob tb LO (dropL LT key) ∧ Only E w w' := by
  obtain ⟨h0, F, G, h1, h2, h3, h4, h5⟩ := h
  refine (tdrop_any (G := fun j => (G j ∧ j < w.heap.size) ∨ w.heap.size ≤ j) key w (h2.trim.mono fun j hj => .inl hj) (fun j hj => .inr hj) hlen).mono ?_
  rintro e w' ⟨rfl, hn, hon⟩
  exact ⟨rfl, half_table h0 h1 h3 h4 h5 hn hon⟩
theorem three_rows {w W : World} {c0 c1 c2 : Array Value} {t0 t1 t2 : TypeId} (h : W = ((w.alloc (.cells c0 t0)).alloc (.cells c1 t1)).alloc (.cells c2 t2)) :
    W.heap[w.heap.size]? = some (.cells c0 t0 (0, 0)) ∧ W.heap[w.heap.size + 1]? = some (.cells c1 t1 (0, 0)) ∧ W.heap[w.heap.size + 2]? = some (.cells c2 t2 (0, 0)) ∧ Below w.heap.size w W ∧ W.heap.size = w.heap.size + 3 := by
  subst h
  refine ⟨(Below.heap_alloc _ _ _ (by simp; omega)).trans ((Below.heap_alloc _ _ _ (by simp)).trans (row_new _ _ _)), (Below.heap_alloc _ _ _ (by simp)).trans ?_, ?_, (by repeat (first | exact Below.refl _ _ | assumption | refine Below.drew ?_ | refine below_drewN ?_ _ | refine Below.alloc ?_ (by first | omega | (simp; done) | (simp; omega)) _ | refine Below.setCell ?_ (by first | omega | (simp; done) | (simp; omega)) _)), by simp⟩
  · have := row_new (w.alloc (.cells c0 t0)) c1 t1
    simpa using this
  · have := row_new ((w.alloc (.cells c0 t0)).alloc (.cells c1 t1)) c2 t2
    simpa using this
theorem len_quiet {F : Nat → Prop} {M : List Link} {ob : Nat} {w : World} (h : Ord F w ob (atLv M)) (a : Nat) : Calls Try.prog 12 #[.pointer (some ⟨ob, 0, none⟩)] (w.drewN a) fun e w' => e = .returned (.int .i64 M.length) ∧ ∃ m, w' = w.drewN m :=
  (len_any (lv := atLv M) (ob := ob) _ (h.below (below_drewN (Below.refl _ _) a))).mono fun _ _ ⟨he, hw⟩ => ⟨by rw [he, lv_zero], a, hw.symm⟩
theorem playL_keys (l : List ActR) (hf : Few l) : ∀ k, k ≤ l.length → ∀ x ∈ playL (l.take k), x.key.size ≤ 1000000
  | 0, _, x, h => by simp [playL] at h
  | k + 1, hk, x, h => by
    rw [playL_succ (by omega)] at h
    unfold stepL at h
    split at h
    · rcases mem_set h with rfl | h
      · have := hf.2 k (by omega); omega
      · exact playL_keys l hf k (by omega) x h
    · split at h
      · exact playL_keys l hf k (by omega) x (mem_drop h)
      · exact playL_keys l hf k (by omega) x h
theorem keep3 {B n : Nat} {W W' : World} (ho : Only (fun j => B ≤ j ∧ (j < n ∨ n + 3 ≤ j)) W W') (hz : n + 3 ≤ W.heap.size) : W'.heap[n]? = W.heap[n]? ∧ W'.heap[n + 1]? = W.heap[n + 1]? ∧ W'.heap[n + 2]? = W.heap[n + 2]? :=
  ⟨ho.block _ (by omega) (by omega), ho.block _ (by omega) (by omega), ho.block _ (by omega) (by omega)⟩
theorem act_cells {W : World} {n : Nat} {a : ActR} (h : W.heap[n]? = some (.cells #[.int .i64 a.what, .string a.l.key, .int .u64 a.l.id, .int .u64 a.l.ver, .int .i64 a.l.line, .int .i64 a.l.cls, .int .i64 a.level, .bool a.past] 40 (0, 0))) :
    W.cell? ⟨n, 1, none⟩ = some (.string a.l.key) ∧ W.cell? ⟨n, 2, none⟩ = some (.int .u64 a.l.id) ∧ W.cell? ⟨n, 3, none⟩ = some (.int .u64 a.l.ver) ∧ W.cell? ⟨n, 4, none⟩ = some (.int .i64 a.l.line) ∧ W.cell? ⟨n, 5, none⟩ = some (.int .i64 a.l.cls) ∧ W.cell? ⟨n, 6, none⟩ = some (.int .i64 a.level) ∧ W.cell? ⟨n, 7, none⟩ = some (.bool a.past) :=
  ⟨row_cells h 1, row_cells h 2, row_cells h 3, row_cells h 4, row_cells h 5, row_cells h 6, row_cells h 7⟩
set_option maxHeartbeats 8000000 in
set_option maxRecDepth 100000 in
theorem orderScript_any (l : List ActR) (A : Option Addr) (c : Nat) (w : World) (h : ActsIn w w.heap.size A c l) : Calls Try.prog 4 #[.slice A l.length c] w fun e w' => e = .returned (.bool true) ∧ Below w.heap.size w w' := by
  have H := hid h
  have hmx := h.max
  have hln := h.len
  clear h
  go_enter Try.func4, Try.ntmps4
  go_wp2_with fail
  refine (large_any l A c _ H.out).mono ?_
  rintro e w1 ⟨b, rfl, rfl, hfew⟩
  cases b with
  | true =>
    clear hfew
    go_wp2_with fail
    refine (awake13 _).mono ?_
    rintro e w4 ⟨rfl, hb4⟩
    go_wp2
    go_ret
    exact ⟨rfl, hb4⟩
  | false =>
  have HFEW := hid (hfew rfl)
  have hl120 := HFEW.out.1
  clear hfew
  go_wp2_with fail
  refine (new_any _).mono ?_
  rintro e w1 ⟨rfl, ho1, hb1, hz1⟩
  have HO1 := hid ho1
  clear ho1
  go_wp2_with fail
  go_loopw [5] (fun v5 wr => ∃ k : Nat, k ≤ l.length ∧ v5 = .int .i64 k ∧ Pair2 (fun j => w.heap.size ≤ j) wr w.heap.size (w.heap.size + 1) (playL (l.take k)) (playL (l.take k)) ∧ Below w.heap.size w wr) (fun v5 _ => l.length - (intOf v5).toNat)
  case atStart =>
    refine ⟨0, Nat.zero_le _, rfl, ⟨fun j hj => by simp at hj; omega, fun j => j = w.heap.size, fun j => j = w.heap.size + 1, (HO1.out.below (by repeat (first | exact Below.refl _ _ | assumption | refine Below.drew ?_ | refine below_drewN ?_ _ | refine Below.alloc ?_ (by first | omega | (simp; done) | (simp; omega)) _ | refine Below.setCell ?_ (by first | omega | (simp; done) | (simp; omega)) _))).congr (fun j _ => rfl), ⟨rfl, none, 0, ?_, ?_, Own.none_, .inl rfl⟩, fun j h1 h2 => by omega, fun j h1 => by omega, fun j h1 => by omega⟩, hb1.alloc (by omega) _⟩
    · rw [← hz1, World.cell?_alloc_at _ _ _ 0 rfl]; rfl
    · rw [← hz1]; exact World.frozen?_alloc_at _ _ _ 0 rfl
  case round =>
    obtain ⟨k, hkl, rfl, hpair, hbw⟩ := hrel
    have HPR := hid hpair
    have hsz := hbw.size
    clear hpair
    by_cases hlt : k < l.length
    · have hrl := playL_rise l k hkl
      have HRL := hid hrl.1
      have HKS := hid (playL_keys l HFEW.out k hkl)
      have hll : (playL (l.take k)).length ≤ 120 := by omega
      have hks := HFEW.out.2 k hlt
      have hks2 : l[k].l.key.size ≤ 1000000 := by omega
      have HST := hid (playL_succ hlt)
      obtain ⟨b, off, rfl, hB, k0, k1, k2, k3, k4, k5, k6, k7⟩ := (H.out.arr.below hbw).act hlt
      clear hrl hks
      obtain ⟨a, ha⟩ : ∃ a, a = l[k] := ⟨_, rfl⟩
      rw [← ha] at k0 k1 k2 k3 k4 k5 k6 k7 hks2 HST
      obtain ⟨L, hL⟩ : ∃ L, L = playL (l.take k) := ⟨_, rfl⟩
      rw [← hL] at HRL hll HST HPR HKS
      clear ha hL
      go_upto_block 2 with fail
      obtain ⟨W3, hW3⟩ : ∃ W3 : World, W3 = ((wr.alloc (.cells #[.int .i64 a.what, .string a.l.key, .int .u64 a.l.id, .int .u64 a.l.ver, .int .i64 a.l.line, .int .i64 a.l.cls, .int .i64 a.level, .bool a.past] 40)).alloc (.cells #[.string ⟨#[]⟩, .int .u64 0, .int .u64 0, .int .i64 0, .int .i64 0] 29)).alloc (.cells #[.string ⟨#[]⟩, .int .u64 0, .int .u64 0, .int .i64 0, .int .i64 0] 29) := ⟨_, rfl⟩
      rw [← hW3]
      obtain ⟨r0, r1, r2, bw3, hz3⟩ := three_rows hW3
      have HR0 := hid r0
      have HR1 := hid r1
      have HR2 := hid r2
      have HP3 := hid (HPR.out.inner bw3 hz3)
      obtain ⟨n, hn⟩ : ∃ n, n = wr.heap.size := ⟨_, rfl⟩
      have HN := hid hn
      simp only [← hn] at HR0 HR1 HR2 HP3 hz3 bw3 hsz ⊢
      have bw3' : Below w.heap.size w W3 := hbw.trans (bw3.mono hsz)
      have x0 := row_cells HR0.out 0
      have x1 := row_cells HR0.out 1
      have x2 := row_cells HR0.out 2
      have x3 := row_cells HR0.out 3
      have x4 := row_cells HR0.out 4
      have x5 := row_cells HR0.out 5
      have x6 := row_cells HR0.out 6
      have x7 := row_cells HR0.out 7
      simp at x0 x1 x2 x3 x4 x5 x6 x7
      have hn3 : n < W3.heap.size := by omega
      clear hW3 r0 r1 r2 hn k0 k1 k2 k3 k4 k5 k6 k7
      go_cut [9, 10] (fun v9 v10 wx => ∃ (v : Bool) (X : Link), v9 = .bool v ∧ v10 = .bool v ∧ BoxL wx (n + 1) X ∧ BoxL wx (n + 1 + 1) X ∧ n + 2 < wx.heap.size ∧ Pair2 (fun j => w.heap.size ≤ j) wx w.heap.size (w.heap.size + 1) (playL (l.take (k + 1))) (playL (l.take (k + 1))) ∧ Below w.heap.size w wx)
      case first =>
        by_cases t0 : a.what = 0
        · have HST2 : Hid (playL (l.take (k + 1)) = setL L a.l) := hid (by rw [HST.out, stepL, if_pos t0])
          have e0 : (a.what == 0) = true := by simp [t0]
          clear HST t0
          go_wp2_with fail
          go_region_with (first | (go_at_call 14; refine (oset2 a.l _ (HP3.out.below (by repeat (first | exact Below.refl _ _ | assumption | refine Below.drew ?_ | refine below_drewN ?_ _ | refine Below.alloc ?_ (by first | omega | (simp; done) | (simp; omega)) _ | refine Below.setCell ?_ (by first | omega | (simp; done) | (simp; omega)) _))) HRL.out (by omega) hks2).mono ?_; rintro e wO ⟨rfl, hpO, honO⟩; have KO := keep3 honO (by first | (simp; done) | (simp; omega)); obtain ⟨o1, o2, o3, o4, o5, o6, o7⟩ := act_cells (KO.1.trans HR0.out); have zO := honO.size) | (go_at_call 15; refine (tset2 a.l _ (hpO.below (by repeat (first | exact Below.refl _ _ | assumption | refine Below.drew ?_ | refine below_drewN ?_ _ | refine Below.alloc ?_ (by first | omega | (simp; done) | (simp; omega)) _ | refine Below.setCell ?_ (by first | omega | (simp; done) | (simp; omega)) _))) HRL.out (by omega)).mono ?_; rintro e wT ⟨rfl, hpT, honT⟩; have zT := honT.size; have KT := keep3 honT (by first | exact Nat.le_trans (Nat.le_of_eq hz3.symm) zO | (simp at zO ⊢; omega))))
          all_goals
            go_wp2_with fail
            go_meet
            have bO := honO.below (lo := w.heap.size) (fun j hj => hj.1) (by simp; omega)
            have bT := honT.below (lo := w.heap.size) (fun j hj => hj.1) (by simp at zO; omega)
            refine ⟨_, link0, rfl, rfl, (KT.2.1.trans KO.2.1).trans HR1.out, (KT.2.2.trans KO.2.2).trans HR2.out, by simp at zO; omega, ?_, (Below.trans (b := _) (show Below w.heap.size w W3.drew from (by repeat (first | exact Below.refl _ _ | assumption | refine Below.drew ?_ | refine below_drewN ?_ _ | refine Below.alloc ?_ (by first | omega | (simp; done) | (simp; omega)) _ | refine Below.setCell ?_ (by first | omega | (simp; done) | (simp; omega)) _))) bO).trans bT⟩
            rw [HST2.out]
            exact hpT.outer fun j hj => hj.1
        · have n0 : (a.what == 0) = false := by simpa using t0
          by_cases t1 : a.what = 1
          · have HST2 : Hid (playL (l.take (k + 1)) = dropL L a.l.key) := hid (by rw [HST.out, stepL, if_neg t0, if_pos t1])
            have e1 : (a.what == 1) = true := by simp [t1]
            clear HST t0 t1
            go_wp2_with fail
            refine (odrop2 a.l.key _ HP3.out HRL.out (by omega) hks2).mono ?_
            rintro e wO ⟨rfl, hpO, honO⟩
            have KO := keep3 honO (by omega)
            obtain ⟨o1, o2, o3, o4, o5, o6, o7⟩ := act_cells (KO.1.trans HR0.out)
            have zO := honO.size
            have HO := hid (And.intro honO (And.intro hpO KO))
            clear honO hpO KO
            go_wp2_with fail
            refine (tdrop2 a.l.key _ HO.out.2.1 (by omega)).mono ?_
            rintro e wT ⟨rfl, hpT, honT⟩
            have KT := keep3 honT (by omega)
            have zT := honT.size
            rw [rightV_eta, look_has]
            have HT := hid (And.intro honT (And.intro hpT KT))
            clear honT hpT KT
            go_wp2_with fail
            go_meet
            have bO := HO.out.1.below (lo := w.heap.size) (fun j hj => hj.1) (by omega)
            have bT := HT.out.1.below (lo := w.heap.size) (fun j hj => hj.1) (by omega)
            refine ⟨_, link0, rfl, rfl, (HT.out.2.2.2.1.trans HO.out.2.2.2.1).trans HR1.out, (HT.out.2.2.2.2.trans HO.out.2.2.2.2).trans HR2.out, by omega, ?_, (bw3'.trans bO).trans bT⟩
            rw [HST2.out]
            exact HT.out.2.1.outer fun j hj => hj.1
          · have n1 : (a.what == 1) = false := by simpa using t1
            have HST2 : Hid (playL (l.take (k + 1)) = L) := hid (by rw [HST.out, stepL, if_neg t0, if_neg t1])
            have HOR := hid HP3.out.ord
            clear HST t0 t1
            by_cases t2 : a.what = 2
            · have e2 : (a.what == 2) = true := by simp [t2]
              clear t2
              go_wp2_with fail
              obtain ⟨F, hF⟩ := HOR.out
              refine (right_all a.level a.l.key a.past _ hF HRL.out (by omega)).mono ?_
              rintro e wR ⟨rfl, hbR⟩
              obtain ⟨r, hr⟩ : ∃ r, r = refRight L a.level a.l.key a.past := ⟨_, rfl⟩
              rw [← hr, rightV_eta]
              have HRR := hid hr
              clear hr hF
              have zR := hbR.size
              have HPR := hid (HP3.out.below hbR)
              obtain ⟨o1, o2, o3, o4, o5, o6, o7⟩ := act_cells ((hbR.block n hn3).trans HR0.out)
              have HQ1 := hid (show BoxL wR (n + 1) link0 from (hbR.block _ (by omega)).trans HR1.out)
              have HQ2 := hid (show BoxL wR (n + 1 + 1) link0 from (hbR.block _ (by omega)).trans HR2.out)
              have f0 := frozen_of_row wR _ 0 _ _ HQ1.out
              have f1 := frozen_of_row wR _ 1 _ _ HQ1.out
              have f2 := frozen_of_row wR _ 2 _ _ HQ1.out
              have f3 := frozen_of_row wR _ 3 _ _ HQ1.out
              have f4 := frozen_of_row wR _ 4 _ _ HQ1.out
              have z0 := row_cells HQ1.out 0
              have z1 := row_cells HQ1.out 1
              have z2 := row_cells HQ1.out 2
              have z3 := row_cells HQ1.out 3
              have z4 := row_cells HQ1.out 4
              simp [link0] at z0 z1 z2 z3 z4
              have HBR := hid hbR
              clear hbR
              go_wp2_with fail
              have hon1 : Only (fun j => ¬ (w.heap.size ≤ j ∧ (j < n ∨ n + 3 ≤ j))) wR (((((wR.setCell ⟨n + 1, 0, none⟩ (.string (r.getD link0).key)).setCell ⟨n + 1, 1, none⟩ (.int .u64 (r.getD link0).id)).setCell ⟨n + 1, 2, none⟩ (.int .u64 (r.getD link0).ver)).setCell ⟨n + 1, 3, none⟩ (.int .i64 (r.getD link0).line)).setCell ⟨n + 1, 4, none⟩ (.int .i64 (r.getD link0).cls)) :=
                Only.set5 (Only.refl _ _) (by omega) _ _ _ _ _
              have hq1 := box_set (r.getD link0) HQ1.out
              have hq2 := box_other (b' := n + 1) (by omega) HQ2.out (.string (r.getD link0).key) (.int .u64 (r.getD link0).id) (.int .u64 (r.getD link0).ver) (.int .i64 (r.getD link0).line) (.int .i64 (r.getD link0).cls)
              have hbs := below_set5 (b := n + 1) (Below.trans bw3' (HBR.out.mono (by omega))) (by omega) (.string (r.getD link0).key) (.int .u64 (r.getD link0).id) (.int .u64 (r.getD link0).ver) (.int .i64 (r.getD link0).line) (.int .i64 (r.getD link0).cls)
              have hps := HPR.out.off hon1
              obtain ⟨W4, hW4⟩ : ∃ W4, W4 = (((((wR.setCell ⟨n + 1, 0, none⟩ (.string (r.getD link0).key)).setCell ⟨n + 1, 1, none⟩ (.int .u64 (r.getD link0).id)).setCell ⟨n + 1, 2, none⟩ (.int .u64 (r.getD link0).ver)).setCell ⟨n + 1, 3, none⟩ (.int .i64 (r.getD link0).line)).setCell ⟨n + 1, 4, none⟩ (.int .i64 (r.getD link0).cls)) := ⟨_, rfl⟩
              have hz4 := hon1.size
              rw [← hW4] at hq1 hq2 hbs hps hz4 ⊢
              have hx4 : W4.heap[n]? = wR.heap[n]? := by rw [hW4]; exact ((((Below.heap_setCell _ _ _ _ (by simp)).trans (Below.heap_setCell _ _ _ _ (by simp))).trans (Below.heap_setCell _ _ _ _ (by simp))).trans (Below.heap_setCell _ _ _ _ (by simp))).trans (Below.heap_setCell _ _ _ _ (by simp))
              obtain ⟨G, hG⟩ := hps.tab
              have HPS := hid hps
              have HQ3 := hid hq1
              have HQ4 := hid hq2
              have HBS := hid hbs
              obtain ⟨p1, p2, p3, p4, p5, p6, p7⟩ := act_cells ((hx4.trans (HBR.out.block n hn3)).trans HR0.out)
              clear hW4 hon1 hq1 hq2 hbs hps hx4 f0 f1 f2 f3 f4 z0 z1 z2 z3 z4 o1 o2 o3 o4 o5 o6 o7
              refine (tright_any a.level a.l.key a.past _ hG (by omega) (fun i hi => HKS.out _ (List.getElem_mem hi))).mono ?_
              rintro e wU ⟨rfl, hbU⟩
              rw [← HRR.out, rightV_eta]
              have zU := hbU.size
              have HPU := hid (HPS.out.below hbU)
              have HQ5 := hid (show BoxL wU (n + 1) (r.getD link0) from (hbU.block _ (by omega)).trans HQ3.out)
              have HQ6 := hid (show BoxL wU (n + 1 + 1) link0 from (hbU.block _ (by omega)).trans HQ4.out)
              have f0 := frozen_of_row wU _ 0 _ _ HQ6.out
              have f1 := frozen_of_row wU _ 1 _ _ HQ6.out
              have f2 := frozen_of_row wU _ 2 _ _ HQ6.out
              have f3 := frozen_of_row wU _ 3 _ _ HQ6.out
              have f4 := frozen_of_row wU _ 4 _ _ HQ6.out
              have z0 := row_cells HQ6.out 0
              have z1 := row_cells HQ6.out 1
              have z2 := row_cells HQ6.out 2
              have z3 := row_cells HQ6.out 3
              have z4 := row_cells HQ6.out 4
              simp [link0] at z0 z1 z2 z3 z4
              have HBU := hid (HBS.out.trans (hbU.mono HBS.out.size))
              clear hbU hG p1 p2 p3 p4 p5 p6 p7
              go_wp2_with fail
              go_meet
              refine ⟨_, r.getD link0, rfl, rfl, box_other (by omega) HQ5.out _ _ _ _ _, box_set (r.getD link0) HQ6.out, by simp; omega, ?_, below_set5 HBU.out (by omega) _ _ _ _ _⟩
              rw [HST2.out]
              exact (HPU.out.off (Only.set5 (Only.refl _ _) (by omega) _ _ _ _ _)).outer fun j hj => hj.1
            · have n2 : (a.what == 2) = false := by simpa using t2
              clear t2
              go_wp2_with fail
              go_meet
              refine ⟨_, link0, rfl, rfl, HR1.out, HR2.out, by omega, ?_, bw3'⟩
              rw [HST2.out]
              exact HP3.out.outer fun j hj => hj.1
      case rest =>
        obtain ⟨v, X, rfl, rfl, hX1, hX2, hzc, hp, hb⟩ := hcut
        have HP := hid hp
        obtain ⟨F, hF⟩ := hp.ord
        obtain ⟨G, hG0, A', c', hc, hf, ho, hl⟩ := hp.tab
        have HF := hid hF
        have HTR := hid (ho.arr Link.enc_len)
        have hln' := ho.len
        have hmx' := ho.max
        have hrl := playL_rise l (k + 1) (by omega)
        have hL2 : (playL (l.take (k + 1))).length ≤ 121 := by omega
        obtain ⟨M, hM⟩ : ∃ M, M = playL (l.take (k + 1)) := ⟨_, rfl⟩
        have HM := hid hM
        rw [← hM] at hL2 HF HTR hc hln' HP
        have y0 := row_cells hX1 0
        have y1 := row_cells hX1 1
        have y2 := row_cells hX1 2
        have y3 := row_cells hX1 3
        have y4 := row_cells hX1 4
        have z0 := row_cells hX2 0
        have z1 := row_cells hX2 1
        have z2 := row_cells hX2 2
        have z3 := row_cells hX2 3
        have z4 := row_cells hX2 4
        simp at y0 y1 y2 y3 y4 z0 z1 z2 z3 z4
        have hn1 : n + 1 < wc.heap.size := by omega
        have htb := cell_lt hc
        have hsb := hb.size
        clear hX1 hX2 hp hM hrl hF ho hl hf x0 x1 x2 x3 x4 x5 x6 x7
        go_wp2_with fail
        go_quiet ((go_at_call 12; exact len_quiet HF.out _))
        go_wp2_with fail
        · have hbq : Below wc.heap.size wc (wc.drewN nq) := below_drewN (Below.refl _ _) nq
          obtain ⟨wq, hwq⟩ : ∃ wq, wq = wc.drewN nq := ⟨_, rfl⟩
          rw [← hwq] at hbq ⊢
          clear hwq
          have hzq := hbq.size
          refine (all_any _ (HF.out.below hbq) (by rw [lv_zero]; omega)).mono ?_
          rintro e wA ⟨A2, c2, rfl, hown, hbA⟩
          rw [lv_zero] at hown ⊢
          have stA : Below wc.heap.size wc wA := hbq.trans (hbA.mono hzq)
          have hzA := hbA.size
          have hcA := (stA.cell (p := ⟨w.heap.size + 1, 0, none⟩) htb).trans hc
          have htbA : w.heap.size + 1 < wA.heap.size := Nat.lt_of_lt_of_le htb stA.size
          have HOW := hid hown
          have hln2 := hown.len
          have hmx2 := hown.max
          have HBA := hid hbA
          clear hown hbA hc y0 y1 y2 y3 y4 z0 z1 z2 z3 z4
          go_wp2_with fail
          refine (sameL_any M A2 A' c2 c' _ (HOW.out.arr Link.enc_len) ((HTR.out.below stA).more stA.size) hln2 hmx2 hln' hmx').mono ?_
          rintro e wS ⟨rfl, hbS⟩
          have hzS := hbS.size
          go_wp2_with fail
          refine (overL_any M A2 c2 wq.heap.size _ (HOW.out.below hbS) (by omega) (by omega)).mono ?_
          rintro e wO ⟨rfl, hbO⟩
          have hbz : Below wc.heap.size wc wO := (stA.trans (hbS.mono stA.size)).trans (hbO.mono hzq)
          go_wp2_with fail
          go_roundw
          case rel => exact ⟨k + 1, by omega, by go_num, by rw [← HM.out]; exact HP.out.below hbz, hb.trans (hbz.mono hsb)⟩
          case measure => simp [intOf]; omega
        · go_roundw
          case rel =>
            have hbz : Below wc.heap.size wc (wc.drewN nq) := below_drewN (Below.refl _ _) nq
            exact ⟨k + 1, by omega, by go_num, by rw [← HM.out]; exact HP.out.below hbz, hb.trans (hbz.mono hsb)⟩
          case measure => simp [intOf]; omega
    · have HK : Hid (playL (l.take k) = playL l) := hid (by rw [List.take_of_length_le (by omega)])
      rw [HK.out] at HPR
      have HL := hid (playL_rise l l.length (Nat.le_refl _))
      rw [List.take_length] at HL
      obtain ⟨M, hM⟩ : ∃ M, M = playL l := ⟨_, rfl⟩
      rw [← hM] at HPR HL
      have hL2 : M.length ≤ 120 := by have := HL.out.2; omega
      obtain ⟨F, hF⟩ := HPR.out.ord
      obtain ⟨G, hG0, A', c', hc, hf, ho, hl⟩ := HPR.out.tab
      have HF := hid hF
      have HTR := hid (ho.arr Link.enc_len)
      have hln' := ho.len
      have hmx' := ho.max
      have htb := cell_lt hc
      clear hM hF ho hl hf HK
      go_wp2_with fail
      go_region_with (first | (go_at_call 19; refine (all_any _ (HF.out.below (by repeat (first | exact Below.refl _ _ | assumption | refine Below.drew ?_ | refine below_drewN ?_ _ | refine Below.alloc ?_ (by first | omega | (simp; done) | (simp; omega)) _ | refine Below.setCell ?_ (by first | omega | (simp; done) | (simp; omega)) _))) (by rw [lv_zero]; omega)).mono ?_; rintro e wA ⟨A2, c2, rfl, hown, hbA⟩; rw [lv_zero] at hown ⊢; have stA : Below wr.heap.size wr wA := Below.trans (b := _) (by repeat (first | exact Below.refl _ _ | assumption | refine Below.drew ?_ | refine below_drewN ?_ _ | refine Below.alloc ?_ (by first | omega | (simp; done) | (simp; omega)) _ | refine Below.setCell ?_ (by first | omega | (simp; done) | (simp; omega)) _)) (hbA.mono (by first | omega | (simp; done) | (simp; omega))); have hzA := stA.size; have hcA := (stA.cell (p := ⟨w.heap.size + 1, 0, none⟩) htb).trans hc; have htbA : w.heap.size + 1 < wA.heap.size := Nat.lt_of_lt_of_le htb stA.size; have hln2 := hown.len; have hmx2 := hown.max) | (go_at_call 20; refine (sameL_any M A2 A' c2 c' _ ((hown.arr Link.enc_len).below (by repeat (first | exact Below.refl _ _ | assumption | refine Below.drew ?_ | refine below_drewN ?_ _ | refine Below.alloc ?_ (by first | omega | (simp; done) | (simp; omega)) _ | refine Below.setCell ?_ (by first | omega | (simp; done) | (simp; omega)) _))) ((HTR.out.below (stA.trans (b := _) (by repeat (first | exact Below.refl _ _ | assumption | refine Below.drew ?_ | refine below_drewN ?_ _ | refine Below.alloc ?_ (by first | omega | (simp; done) | (simp; omega)) _ | refine Below.setCell ?_ (by first | omega | (simp; done) | (simp; omega)) _)))).more hzA) hln2 hmx2 hln' hmx').mono ?_; rintro e wS ⟨rfl, hbS⟩; have stS : Below wr.heap.size wr wS := stA.trans (Below.trans (b := _) (show Below wr.heap.size wA _ from (by repeat (first | exact Below.refl _ _ | assumption | refine Below.drew ?_ | refine below_drewN ?_ _ | refine Below.alloc ?_ (by first | omega | (simp; done) | (simp; omega)) _ | refine Below.setCell ?_ (by first | omega | (simp; done) | (simp; omega)) _))) (hbS.mono (by first | exact hzA | (simp; done) | (simp; exact hzA)))); have hzS := stS.size) | (go_at_call 9; refine (awake13 _).mono ?_; rintro e wZ ⟨rfl, hbZ⟩; have stZ : Below wr.heap.size wr wZ := stS.trans (Below.trans (b := _) (show Below wr.heap.size wS _ from (by repeat (first | exact Below.refl _ _ | assumption | refine Below.drew ?_ | refine below_drewN ?_ _ | refine Below.alloc ?_ (by first | omega | (simp; done) | (simp; omega)) _ | refine Below.setCell ?_ (by first | omega | (simp; done) | (simp; omega)) _))) (hbZ.mono (by first | exact hzS | (simp; done) | (simp; exact hzS))))))
      all_goals
        go_wp2_with fail
        go_ret
        exact ⟨rfl, hbw.trans (stZ.mono hsz)⟩
end Go.Proofs.Ythadifbbepcdiaa
