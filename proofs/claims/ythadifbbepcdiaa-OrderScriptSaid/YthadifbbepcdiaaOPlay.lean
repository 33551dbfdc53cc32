/- What every program answers that is one; whether acts are many; an order behind acts. -/
import Derived.Test.YthadifbbepcdiaaOWalk
import Derived.Test.YthadifbbepcdiaaOSet
import Derived.Test.YthadifbbepcdiaaODrop
namespace Go.Proofs.Ythadifbbepcdiaa
open Go.RowKit

theorem lvl_awake : lvlOf ⟨#[49, 50, 51, 52, 53, 54, 55, 56, 57]⟩ = 3 := by decide +kernel
def linkA : Link := ⟨⟨#[49, 50, 51, 52, 53, 54, 55, 56, 57]⟩, 0, 4, 0, 0⟩
theorem lv_awake (i : Nat) : atLv [linkA] i = if i < 3 then [linkA] else [] := by
  have e : lvlOf linkA.key = 3 := lvl_awake
  simp only [atLv, List.filter_cons, List.filter_nil, onLv, e, decide_eq_true_eq]
theorem rise_one (x : Link) : Rise [x] := List.pairwise_singleton _ _
theorem rise_nil : Rise [] := List.Pairwise.nil
set_option maxHeartbeats 8000000 in
theorem awake13 (w : World) : Calls Try.prog 9 #[] w fun e w' => e = .returned (.bool true) ∧ Below w.heap.size w w' := by
  go_enter Try.func9, Try.ntmps9
  go_wp2_with fail
  refine (new_any _).mono ?_
  rintro e w1 ⟨rfl, ho1, hb1, hz1⟩
  have ho1' : Ord (fun j => w.heap.size ≤ j) w1 w.heap.size (atLv []) := (ho1.mono (G := fun j => w.heap.size ≤ j) (fun j hj => by omega)).congr fun j _ => rfl
  have HO1 := hid ho1'
  clear ho1 ho1'
  go_wp2_with fail
  refine (set_any (F := fun j => w.heap.size ≤ j) linkA _ HO1.out (fun j hj => by omega) rise_nil (by simp) (by decide)).mono ?_
  rintro e w2 ⟨rfl, ho2, hon2⟩
  have es : setL [] linkA = [linkA] := rfl
  rw [es] at ho2
  have HO2 := hid ho2
  have bw2 : Below w.heap.size w w2 := hb1.trans (hon2.below (fun j hj => hj) (by omega))
  have hz2 : w1.heap.size ≤ w2.heap.size := hon2.size
  clear ho2 hon2
  go_wp2_with fail
  refine (right_at (k := 2) (by omega) 3 (by omega) _ _ _ HO2.out (by rw [lv_awake]; exact rise_one _) (by rw [lv_awake]; simp)).mono ?_
  rintro e w3 ⟨rfl, hb3⟩
  have er : rightV (rightIn (atLv [linkA] 2) ⟨#[]⟩ false) = .tuple #[.agg #[.string linkA.key, .int .u64 0, .int .u64 4, .int .i64 0, .int .i64 0], .bool true] := by rw [lv_awake]; rfl
  rw [er]
  have HO3 := hid (HO2.out.below hb3)
  have bw3 : Below w.heap.size w w3 := bw2.trans (hb3.mono bw2.size)
  have hz3 := hb3.size
  clear hb3 er
  go_wp2_with fail
  refine (right_at (k := 3) (by omega) 4 (by omega) _ _ _ (HO3.out.below (by repeat (first | exact Below.refl _ _ | assumption | refine Below.drew ?_ | refine below_drewN ?_ _ | refine Below.alloc ?_ (by first | omega | (simp; done) | (simp; omega)) _ | refine Below.setCell ?_ (by first | omega | (simp; done) | (simp; omega)) _))) (by rw [lv_awake]; exact rise_nil) (by rw [lv_awake]; simp)).mono ?_
  rintro e w4 ⟨rfl, hb4⟩
  have er : rightV (rightIn (atLv [linkA] 3) ⟨#[]⟩ false) = .tuple #[.agg #[.string ByteArray.empty, .int .u64 0, .int .u64 0, .int .i64 0, .int .i64 0], .bool false] := by rw [lv_awake]; rfl
  rw [er]
  have st4 : Below w3.heap.size w3 w4 := Below.trans (by repeat (first | exact Below.refl _ _ | assumption | refine Below.drew ?_ | refine below_drewN ?_ _ | refine Below.alloc ?_ (by first | omega | (simp; done) | (simp; omega)) _ | refine Below.setCell ?_ (by first | omega | (simp; done) | (simp; omega)) _)) (hb4.mono (show w3.heap.size ≤ _ from (by first | omega | (simp; done) | (simp; omega))))
  have HO4 := hid (HO3.out.below st4)
  have bw4 : Below w.heap.size w w4 := bw3.trans (st4.mono bw3.size)
  have hz4 : w3.heap.size + 1 ≤ w4.heap.size := by have := hb4.size; simpa using this
  have x2 : w4.cell? ⟨w3.heap.size, 2, none⟩ = some (.int .u64 4) := by rw [hb4.cell (by simp)]; simp [go_sem]
  have x2' : ∀ o, (w4.alloc o).cell? ⟨w3.heap.size, 2, none⟩ = some (.int .u64 4) := fun o => (World.cell?_alloc_lt _ _ _ (show w3.heap.size < w4.heap.size by omega)).trans x2
  clear hb4 er x2
  go_wp2_with fail
  refine (len_any (lv := atLv [linkA]) (ob := w.heap.size) _ (HO4.out.below (by repeat (first | exact Below.refl _ _ | assumption | refine Below.drew ?_ | refine below_drewN ?_ _ | refine Below.alloc ?_ (by first | omega | (simp; done) | (simp; omega)) _ | refine Below.setCell ?_ (by first | omega | (simp; done) | (simp; omega)) _)))).mono ?_
  rintro e w5 ⟨rfl, rfl⟩
  have el : (atLv [linkA] 0).length = 1 := by rw [lv_awake]; rfl
  rw [el]
  go_wp2
  go_ret
  exact ⟨rfl, (by repeat (first | exact Below.refl _ _ | assumption | refine Below.drew ?_ | refine below_drewN ?_ _ | refine Below.alloc ?_ (by first | omega | (simp; done) | (simp; omega)) _ | refine Below.setCell ?_ (by first | omega | (simp; done) | (simp; omega)) _))⟩

structure ActR where
  what : Int
  l : Link
  level : Int
  past : Bool
def ActR.enc (x : ActR) : List Value := [.int .i64 x.what, .string x.l.key, .int .u64 x.l.id, .int .u64 x.l.ver, .int .i64 x.l.line, .int .i64 x.l.cls, .int .i64 x.level, .bool x.past]
theorem ActR.enc_len (x : ActR) : x.enc.length = 8 := rfl
theorem Arr.act {w : World} {B : Nat} {A : Option Addr} {l : List ActR} (h : Arr ActR.enc 8 w B A l) {i : Nat} (hi : i < l.length) :
    ∃ b off, A = some ⟨b, off, none⟩ ∧ b < B ∧ w.cell? ⟨b, off + i * 8, none⟩ = some (.int .i64 l[i].what) ∧ w.cell? ⟨b, off + i * 8 + 1, none⟩ = some (.string l[i].l.key) ∧ w.cell? ⟨b, off + i * 8 + 2, none⟩ = some (.int .u64 l[i].l.id) ∧ w.cell? ⟨b, off + i * 8 + 3, none⟩ = some (.int .u64 l[i].l.ver) ∧ w.cell? ⟨b, off + i * 8 + 4, none⟩ = some (.int .i64 l[i].l.line) ∧ w.cell? ⟨b, off + i * 8 + 5, none⟩ = some (.int .i64 l[i].l.cls) ∧ w.cell? ⟨b, off + i * 8 + 6, none⟩ = some (.int .i64 l[i].level) ∧ w.cell? ⟨b, off + i * 8 + 7, none⟩ = some (.bool l[i].past) := by
  rcases h with h | ⟨b, off, hA, hB, hc⟩
  · subst h; simp at hi
  · exact ⟨b, off, hA, hB, hc i hi 0 _ rfl, hc i hi 1 _ rfl, hc i hi 2 _ rfl, hc i hi 3 _ rfl, hc i hi 4 _ rfl, hc i hi 5 _ rfl, hc i hi 6 _ rfl, hc i hi 7 _ rfl⟩
/-- acts as they lie in memory, below block B -/
structure ActsIn (w : World) (B : Nat) (A : Option Addr) (c : Nat) (l : List ActR) : Prop where
  arr : Arr ActR.enc 8 w B A l
  len : l.length ≤ c
  max : c ≤ 9223372036854775807
def Few (l : List ActR) : Prop := l.length ≤ 120 ∧ ∀ i, (h : i < l.length) → l[i].l.key.size ≤ 200
def GivesLarge (l : List ActR) (w : World) (e : Ending) (w' : World) : Prop := ∃ b : Bool, e = .returned (.bool b) ∧ w = w' ∧ (b = false → Few l)
set_option maxHeartbeats 8000000 in
theorem large_any (l : List ActR) (A : Option Addr) (c : Nat) (w : World) (h : ActsIn w w.heap.size A c l) : Calls Try.prog 8 #[.slice A l.length c] w (GivesLarge l w) := by
  have HA := hid h.arr
  have hlen := h.len
  have hmax := h.max
  clear h
  by_cases hsm : l.length ≤ 120
  case neg =>
    go_enter Try.func8, Try.ntmps8
    go_wp2_with fail
    all_goals first | (exfalso; omega) | (go_ret; exact ⟨true, rfl, rfl, fun h => by cases h⟩)
  go_enter Try.func8, Try.ntmps8
  go_wp2_with fail
  go_loop [3] (fun vi => ∃ k : Nat, k ≤ l.length ∧ vi = .int .i64 k ∧ Hid (∀ i, (h : i < l.length) → i < k → l[i].l.key.size ≤ 200)) (fun vi => l.length - (intOf vi).toNat)
  case atStart => exact ⟨0, Nat.zero_le _, rfl, hid fun _ _ h => absurd h (by omega)⟩
  case round =>
    obtain ⟨k, hkl, rfl, hs⟩ := hrel
    by_cases hlt : k < l.length
    · obtain ⟨b, off, rfl, hB, k0, k1, k2, k3, k4, k5, k6, k7⟩ := HA.out.act hlt
      clear k0 k2 k3 k4 k5 k6 k7
      by_cases t1 : (200 : Int) < (l[k].l.key.size : Int)
      · go_wp2_with fail
        go_ret
        exact ⟨true, rfl, rfl, fun h => by cases h⟩
      · go_wp2_with fail
        refine ⟨⟨k + 1, by omega, by go_num, hid fun i hi hik => ?_⟩, by simp [intOf]; omega⟩
        rcases (by omega : i < k ∨ i = k) with h | rfl
        · exact hs.out i hi h
        · omega
    · go_wp2_with fail
      go_ret
      exact ⟨false, rfl, rfl, fun _ => ⟨hsm, fun i hi => hs.out i hi (by omega)⟩⟩

def stepL (L : List Link) (a : ActR) : List Link := if a.what = 0 then setL L a.l else if a.what = 1 then dropL L a.l.key else L
def playL (l : List ActR) : List Link := l.foldl stepL []
theorem rise_step {L : List Link} (h : Rise L) (a : ActR) : Rise (stepL L a) := by
  unfold stepL
  split
  · exact rise_set h _
  · split
    · exact rise_drop h _
    · exact h
theorem len_step (L : List Link) (a : ActR) : (stepL L a).length ≤ L.length + 1 := by
  unfold stepL
  split
  · exact setL_len _ _
  · split
    · have := dropL_len L a.l.key; omega
    · omega
theorem playL_succ {l : List ActR} {k : Nat} (hk : k < l.length) : playL (l.take (k + 1)) = stepL (playL (l.take k)) l[k] := by
  rw [List.take_succ_eq_append_getElem hk, playL, List.foldl_append]; rfl
theorem playL_rise (l : List ActR) : ∀ k, k ≤ l.length → Rise (playL (l.take k)) ∧ (playL (l.take k)).length ≤ k
  | 0, _ => ⟨rise_nil, Nat.zero_le _⟩
  | k + 1, h => by
    have ih := playL_rise l k (by omega)
    rw [playL_succ (by omega)]
    have := len_step (playL (l.take k)) l[k]
    exact ⟨rise_step ih.1 _, by omega⟩
set_option maxHeartbeats 8000000 in
set_option maxRecDepth 100000 in
theorem played_any (l : List ActR) (A : Option Addr) (c : Nat) (w : World) (h : ActsIn w w.heap.size A c l) (hf : Few l) : Calls Try.prog 10 #[.slice A l.length c] w fun e w' =>
    e = .returned (.pointer (some ⟨w.heap.size, 0, none⟩)) ∧ Ord (fun j => w.heap.size ≤ j) w' w.heap.size (atLv (playL l)) ∧ Below w.heap.size w w' := by
  have HA := hid h.arr
  have hlen := h.len
  have hmax := h.max
  have HFW := hid hf
  have hl120 := hf.1
  clear h hf
  go_enter Try.func10, Try.ntmps10
  go_wp2_with fail
  refine (new_any _).mono ?_
  rintro e w1 ⟨rfl, ho1, hb1, hz1⟩
  have HO1 : Hid (Ord (fun j => w.heap.size ≤ j) w1 w.heap.size (atLv (playL (l.take 0)))) := hid ((ho1.mono (G := fun j => w.heap.size ≤ j) (fun j hj => by omega)).congr fun j _ => rfl)
  clear ho1
  go_wp2_with fail
  go_loopw [4] (fun vi wr => ∃ k : Nat, k ≤ l.length ∧ vi = .int .i64 k ∧ Ord (fun j => w.heap.size ≤ j) wr w.heap.size (atLv (playL (l.take k))) ∧ Below w.heap.size w wr) (fun vi _ => l.length - (intOf vi).toNat)
  case atStart => exact ⟨0, Nat.zero_le _, rfl, HO1.out, hb1⟩
  case round =>
    obtain ⟨k, hkl, rfl, hord, hbw⟩ := hrel
    have HORD := hid hord
    have hsz := hbw.size
    clear hord
    by_cases hlt : k < l.length
    · have hrl := playL_rise l k hkl
      have HRL := hid hrl.1
      have hll : (playL (l.take k)).length ≤ 1000 := by omega
      have hks := HFW.out.2 k hlt
      have hks2 : l[k].l.key.size ≤ 1000000 := by omega
      have HST := hid (playL_succ hlt)
      obtain ⟨b, off, rfl, hB, k0, k1, k2, k3, k4, k5, k6, k7⟩ := (HA.out.below hbw).act hlt
      clear hrl hks k6 k7
      obtain ⟨a, ha⟩ : ∃ a, a = l[k] := ⟨_, rfl⟩
      rw [← ha] at k0 k1 k2 k3 k4 k5 hks2 HST
      clear ha
      by_cases t0 : a.what = 0
      · rw [t0] at k0
        have HST2 : Hid (playL (l.take (k + 1)) = setL (playL (l.take k)) a.l) := hid (by rw [HST.out, stepL, if_pos t0])
        clear HST
        go_wp2_with fail
        refine (set_any (F := fun j => w.heap.size ≤ j) a.l _ HORD.out (fun j hj => by omega) HRL.out hll hks2).mono ?_
        rintro e w2 ⟨rfl, ho2, hon2⟩
        go_wp2_with fail
        go_roundw
        case rel => exact ⟨k + 1, by omega, by go_num, by rw [HST2.out]; exact ho2, hbw.trans (hon2.below (fun j hj => hj) hsz)⟩
        case measure => simp [intOf]; omega
      · have n0 : (a.what == 0) = false := by simpa using t0
        by_cases t1 : a.what = 1
        · rw [t1] at k0
          have HST2 : Hid (playL (l.take (k + 1)) = dropL (playL (l.take k)) a.l.key) := hid (by rw [HST.out, stepL, if_neg t0, if_pos t1])
          clear HST t0 n0
          go_wp2_with fail
          refine (drop_any (F := fun j => w.heap.size ≤ j) a.l.key _ HORD.out (fun j hj => by omega) HRL.out hll hks2).mono ?_
          rintro e w2 ⟨rfl, ho2, hon2⟩
          go_wp2_with fail
          go_roundw
          case rel => exact ⟨k + 1, by omega, by go_num, by rw [HST2.out]; exact ho2, hbw.trans (hon2.below (fun j hj => hj) hsz)⟩
          case measure => simp [intOf]; omega
        · have n1 : (a.what == 1) = false := by simpa using t1
          have HST2 : Hid (playL (l.take (k + 1)) = playL (l.take k)) := hid (by rw [HST.out, stepL, if_neg t0, if_neg t1])
          clear HST t0 t1
          go_wp2_with fail
          go_roundw
          case rel => exact ⟨k + 1, by omega, by go_num, by rw [HST2.out]; exact HORD.out, hbw⟩
          case measure => simp [intOf]; omega
    · have hk : k = l.length := by omega
      have HK := hid hk
      clear hk
      go_wp2_with fail
      go_ret
      refine ⟨rfl, ?_, hbw⟩
      have := HORD.out
      rwa [HK.out, List.take_length] at this
end Go.Proofs.Ythadifbbepcdiaa
