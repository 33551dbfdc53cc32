/- fuseelaw15.large: what is not large is small. -/
import Derived.Test.YthpegmeebhkhbaaAwake
namespace Go.Proofs.Ythpegmeebhkhbaa
open Go.RowKit

structure Small (s : Shelf) (g : List Call0) : Prop where
  pairs : s.pairs.length ≤ 60
  queue : s.queue.length ≤ 60
  group : g.length ≤ 20
  flat : ∀ x ∈ g, x.gn = 0
def GivesLarge (s : Shelf) (g : List Call0) (w : World) (e : Ending) (w' : World) : Prop := ∃ r, e = .returned (.bool r) ∧ Below w.heap.size w w' ∧ (r = false → Small s g)
theorem Arr.txt1 {w : World} {B : Nat} {A : Option Addr} {l : List ByteArray} (h : Arr txt 1 w B A l) {i : Nat} (hi : i < l.length) : ∃ b off, A = some ⟨b, off, none⟩ ∧ b < B ∧ w.cell? ⟨b, off + i, none⟩ = some (.string l[i]) := by
  rcases h with h | ⟨b, off, hA, hB, hc⟩
  · subst h; simp at hi
  · exact ⟨b, off, hA, hB, by simpa using hc i hi 0 _ rfl⟩
theorem flat_succ {g : List Call0} {k : Nat} (hk : k < g.length) (h : ∀ x ∈ g.take k, x.gn = 0) (h1 : g[k].gn = 0) : ∀ x ∈ g.take (k + 1), x.gn = 0 := by
  intro x hx
  rw [List.take_succ_eq_append_getElem hk] at hx
  simp only [List.mem_append, List.mem_singleton] at hx
  rcases hx with hx | rfl
  · exact h x hx
  · exact h1
set_option maxHeartbeats 4000000 in
set_option maxRecDepth 100000 in
theorem large_any (s : Shelf) (PA : Option Addr) (pc : Nat) (QA : Option Addr) (qc : Nat) (c : Call0) (g : List Call0) (w : World) (h : ShIn w w.heap.size PA pc QA qc s) (hc : CallIn w w.heap.size c g) :
    Calls Try.prog 31 #[.agg #[.slice PA s.pairs.length pc, .slice QA s.queue.length qc], .agg #[.int .i64 c.kind, .string c.key, .string c.val, .string c.to, .slice c.gA c.gn c.gc]] w (GivesLarge s g w) := by
  obtain ⟨ck, ckey, cval, cto, gA, gn, gc⟩ := c
  have H := hid h
  have HC := hid hc
  have hgn := hc.len
  simp only at hgn
  subst hgn
  have hcap := hc.cap
  have hmax := hc.max
  simp only at hcap hmax
  have hpl := h.plen
  have hpm := h.pmax
  have hql := h.qlen
  have hqm := h.qmax
  clear h hc
  by_cases hsm : s.pairs.length ≤ 60 ∧ s.queue.length ≤ 60 ∧ g.length ≤ 20
  case neg =>
    go_enter Try.func31, Try.ntmps31
    go_wp2_with fail
    all_goals first | (exfalso; omega) | (go_ret; exact ⟨true, rfl, (by repeat (first | exact Below.refl _ _ | assumption | refine Below.drew ?_ | refine below_drewN ?_ _ | refine Below.alloc ?_ (by first | omega | (simp; done) | (simp; omega)) _ | refine Below.setCell ?_ (by first | omega | (simp; done) | (simp; omega)) _)), fun h => by cases h⟩)
  obtain ⟨sm1, sm2, sm3⟩ := hsm
  go_enter Try.func31, Try.ntmps31
  go_wp2_with fail
  go_loopw [5] (fun i wr => ∃ k : Nat, k ≤ s.pairs.length ∧ i = .int .i64 k ∧ Below (w.heap.size + 2) ((w.alloc (.cells #[.slice PA s.pairs.length pc, .slice QA s.queue.length qc] 41)).alloc (.cells #[.int .i64 ck, .string ckey, .string cval, .string cto, .slice gA g.length gc] 50)) wr) (fun i _ => s.pairs.length - (intOf i).toNat)
  case atStart => exact ⟨0, Nat.zero_le _, rfl, Below.refl _ _⟩
  case round =>
    obtain ⟨k, hkl, rfl, hb⟩ := hrel
    have hw : Below w.heap.size w _ := Below.trans (by repeat (first | exact Below.refl _ _ | assumption | refine Below.drew ?_ | refine below_drewN ?_ _ | refine Below.alloc ?_ (by first | omega | (simp; done) | (simp; omega)) _ | refine Below.setCell ?_ (by first | omega | (simp; done) | (simp; omega)) _)) (hb.mono (show w.heap.size ≤ _ from (by first | omega | (simp; done) | (simp; omega))))
    have s0 := (hb.cell (p := ⟨w.heap.size, 0, none⟩) (by simp)).trans (show _ = some (Value.slice PA s.pairs.length pc) from (by simp [go_sem]))
    have s1 := (hb.cell (p := ⟨w.heap.size, 1, none⟩) (by simp)).trans (show _ = some (Value.slice QA s.queue.length qc) from (by simp [go_sem]))
    have t0 := (hb.cell (p := ⟨w.heap.size + 1, 0, none⟩) (by simp)).trans (show _ = some (Value.int .i64 ck) from (by simp [go_sem]))
    have t1 := (hb.cell (p := ⟨w.heap.size + 1, 1, none⟩) (by simp)).trans (show _ = some (Value.string ckey) from (by simp [go_sem]))
    have t2 := (hb.cell (p := ⟨w.heap.size + 1, 2, none⟩) (by simp)).trans (show _ = some (Value.string cval) from (by simp [go_sem]))
    have t3 := (hb.cell (p := ⟨w.heap.size + 1, 3, none⟩) (by simp)).trans (show _ = some (Value.string cto) from (by simp [go_sem]))
    have t4 := (hb.cell (p := ⟨w.heap.size + 1, 4, none⟩) (by simp)).trans (show _ = some (Value.slice gA g.length gc) from (by simp [go_sem]))
    by_cases hlt : k < s.pairs.length
    · obtain ⟨b, off, rfl, hB, c0, c1⟩ := (H.out.pairs.below hw).pair hlt
      go_wp2
      all_goals first | (go_ret; exact ⟨true, rfl, hw, fun h => by cases h⟩) | (refine ⟨⟨k + 1, by omega, by go_num, hb⟩, ?_⟩; simp [intOf]; omega)
    · go_wp2_with fail
      clear s0 s1 t0 t1 t2 t3 t4
      go_loopw [6] (fun i wr => ∃ k : Nat, k ≤ s.queue.length ∧ i = .int .i64 k ∧ Below (w.heap.size + 2) ((w.alloc (.cells #[.slice PA s.pairs.length pc, .slice QA s.queue.length qc] 41)).alloc (.cells #[.int .i64 ck, .string ckey, .string cval, .string cto, .slice gA g.length gc] 50)) wr) (fun i _ => s.queue.length - (intOf i).toNat)
      case atStart => exact ⟨0, Nat.zero_le _, rfl, hb⟩
      case round =>
        clear hb hw hlt hkl
        obtain ⟨k, hkl, rfl, hb⟩ := hrel
        have hw : Below w.heap.size w _ := Below.trans (by repeat (first | exact Below.refl _ _ | assumption | refine Below.drew ?_ | refine below_drewN ?_ _ | refine Below.alloc ?_ (by first | omega | (simp; done) | (simp; omega)) _ | refine Below.setCell ?_ (by first | omega | (simp; done) | (simp; omega)) _)) (hb.mono (show w.heap.size ≤ _ from (by first | omega | (simp; done) | (simp; omega))))
        have s0 := (hb.cell (p := ⟨w.heap.size, 0, none⟩) (by simp)).trans (show _ = some (Value.slice PA s.pairs.length pc) from (by simp [go_sem]))
        have s1 := (hb.cell (p := ⟨w.heap.size, 1, none⟩) (by simp)).trans (show _ = some (Value.slice QA s.queue.length qc) from (by simp [go_sem]))
        have t0 := (hb.cell (p := ⟨w.heap.size + 1, 0, none⟩) (by simp)).trans (show _ = some (Value.int .i64 ck) from (by simp [go_sem]))
        have t1 := (hb.cell (p := ⟨w.heap.size + 1, 1, none⟩) (by simp)).trans (show _ = some (Value.string ckey) from (by simp [go_sem]))
        have t2 := (hb.cell (p := ⟨w.heap.size + 1, 2, none⟩) (by simp)).trans (show _ = some (Value.string cval) from (by simp [go_sem]))
        have t3 := (hb.cell (p := ⟨w.heap.size + 1, 3, none⟩) (by simp)).trans (show _ = some (Value.string cto) from (by simp [go_sem]))
        have t4 := (hb.cell (p := ⟨w.heap.size + 1, 4, none⟩) (by simp)).trans (show _ = some (Value.slice gA g.length gc) from (by simp [go_sem]))
        by_cases hlt : k < s.queue.length
        · obtain ⟨b, off, rfl, hB, c0⟩ := (H.out.queue.below hw).txt1 hlt
          go_wp2
          all_goals first | (go_ret; exact ⟨true, rfl, hw, fun h => by cases h⟩) | (refine ⟨⟨k + 1, by omega, by go_num, hb⟩, ?_⟩; simp [intOf]; omega)
        · go_wp2_with fail
          clear s0 s1 t0 t1 t2 t3 t4
          go_loopw [7] (fun i wr => ∃ k : Nat, k ≤ g.length ∧ i = .int .i64 k ∧ Below (w.heap.size + 2) ((w.alloc (.cells #[.slice PA s.pairs.length pc, .slice QA s.queue.length qc] 41)).alloc (.cells #[.int .i64 ck, .string ckey, .string cval, .string cto, .slice gA g.length gc] 50)) wr ∧ ∀ x ∈ g.take k, x.gn = 0) (fun i _ => g.length - (intOf i).toNat)
          case atStart => exact ⟨0, Nat.zero_le _, rfl, hb, by simp⟩
          case round =>
            clear hb hw hlt hkl
            obtain ⟨k, hkl, rfl, hb, hfl⟩ := hrel
            have hw : Below w.heap.size w _ := Below.trans (by repeat (first | exact Below.refl _ _ | assumption | refine Below.drew ?_ | refine below_drewN ?_ _ | refine Below.alloc ?_ (by first | omega | (simp; done) | (simp; omega)) _ | refine Below.setCell ?_ (by first | omega | (simp; done) | (simp; omega)) _)) (hb.mono (show w.heap.size ≤ _ from (by first | omega | (simp; done) | (simp; omega))))
            have HFL := hid hfl
            clear hfl
            have s0 := (hb.cell (p := ⟨w.heap.size, 0, none⟩) (by simp)).trans (show _ = some (Value.slice PA s.pairs.length pc) from (by simp [go_sem]))
            have s1 := (hb.cell (p := ⟨w.heap.size, 1, none⟩) (by simp)).trans (show _ = some (Value.slice QA s.queue.length qc) from (by simp [go_sem]))
            have t0 := (hb.cell (p := ⟨w.heap.size + 1, 0, none⟩) (by simp)).trans (show _ = some (Value.int .i64 ck) from (by simp [go_sem]))
            have t1 := (hb.cell (p := ⟨w.heap.size + 1, 1, none⟩) (by simp)).trans (show _ = some (Value.string ckey) from (by simp [go_sem]))
            have t2 := (hb.cell (p := ⟨w.heap.size + 1, 2, none⟩) (by simp)).trans (show _ = some (Value.string cval) from (by simp [go_sem]))
            have t3 := (hb.cell (p := ⟨w.heap.size + 1, 3, none⟩) (by simp)).trans (show _ = some (Value.string cto) from (by simp [go_sem]))
            have t4 := (hb.cell (p := ⟨w.heap.size + 1, 4, none⟩) (by simp)).trans (show _ = some (Value.slice gA g.length gc) from (by simp [go_sem]))
            by_cases hlt : k < g.length
            · obtain ⟨b, off, hA, hB, c0, c1, c2, c3, c4⟩ := (HC.out.arr.below hw).call0 hlt
              simp only at hA
              subst hA
              go_wp2
              all_goals first | (go_ret; exact ⟨true, rfl, hw, fun h => by cases h⟩) | (refine ⟨⟨k + 1, by omega, by go_num, hb, flat_succ hlt HFL.out (by assumption)⟩, ?_⟩; simp [intOf]; omega)
            · go_wp2
              all_goals (go_ret; exact ⟨_, rfl, hw, fun _ => ⟨sm1, sm2, sm3, fun x hx => HFL.out x (by rwa [List.take_of_length_le (by omega)])⟩⟩)
end Go.Proofs.Ythpegmeebhkhbaa
