/- A new order; its length; all its links; what is to the right. -/
import Derived.Test.YthadifbbepcdiaaOOrd
namespace Go.Proofs.Ythadifbbepcdiaa
open Go.RowKit

theorem new_any (w : World) : Calls Try.prog 13 #[] w fun e w' => e = .returned (.pointer (some ⟨w.heap.size, 0, none⟩)) ∧ Ord (fun j => j = w.heap.size) w' w.heap.size (fun _ => []) ∧ Below w.heap.size w w' ∧ w'.heap.size = w.heap.size + 1 := by
  go_enter Try.func13, Try.ntmps13
  go_wp2
  go_ret
  refine ⟨rfl, ⟨rfl, fun _ => none, fun _ => 0, ⟨fun i hi => ?_, fun i => ?_, fun _ _ => Own.none_, fun _ _ => .inl rfl, fun _ _ _ _ _ _ _ _ _ _ => .inl rfl⟩⟩, (by repeat (first | exact Below.refl _ _ | assumption | refine Below.drew ?_ | refine below_drewN ?_ _ | refine Below.alloc ?_ (by first | omega | (simp; done) | (simp; omega)) _ | refine Below.setCell ?_ (by first | omega | (simp; done) | (simp; omega)) _)), by simp⟩
  · rw [World.cell?_alloc_at _ _ _ i rfl]
    rcases (by omega : i = 0 ∨ i = 1 ∨ i = 2 ∨ i = 3) with rfl | rfl | rfl | rfl <;> rfl
  · exact World.frozen?_alloc_at _ _ _ i rfl
theorem len_nil (w : World) : Calls Try.prog 12 #[.pointer none] w fun e w' => e = .returned (.int .i64 0) ∧ w = w' := by
  go_enter Try.func12, Try.ntmps12
  go_wp2
  go_ret
  exact ⟨rfl, rfl⟩
theorem len_any {F : Nat → Prop} {lv : Nat → List Link} {ob : Nat} (w : World) (h : Ord F w ob lv) : Calls Try.prog 12 #[.pointer (some ⟨ob, 0, none⟩)] w fun e w' => e = .returned (.int .i64 (lv 0).length) ∧ w = w' := by
  obtain ⟨h0, A, c, h⟩ := h
  have c0 := h.cell 0 (by omega)
  clear h
  go_enter Try.func12, Try.ntmps12
  go_wp2
  go_ret
  exact ⟨rfl, rfl⟩
theorem all_nil (w : World) : Calls Try.prog 19 #[.pointer none] w fun e w' => e = .returned (.slice none 0 0) ∧ w = w' := by
  go_enter Try.func19, Try.ntmps19
  go_wp2
  go_ret
  exact ⟨rfl, rfl⟩
theorem all_any {F : Nat → Prop} {lv : Nat → List Link} {ob : Nat} (w : World) (h : Ord F w ob lv) (hl : (lv 0).length ≤ 100000) : Calls Try.prog 19 #[.pointer (some ⟨ob, 0, none⟩)] w fun e w' =>
    ∃ A' c', e = .returned (.slice A' (lv 0).length c') ∧ Own Link.enc 29 5 w' w.heap.size A' c' (lv 0) ∧ Below w.heap.size w w' := by
  obtain ⟨h0, A, c, h⟩ := h
  have c0 := h.cell 0 (by omega)
  have HO := hid (h.own 0 (by omega))
  have hln := (h.own 0 (by omega)).len
  have hmx := (h.own 0 (by omega)).max
  clear h
  go_enter Try.func19, Try.ntmps19
  go_wp2_with (go_at_call 29; refine (cloneLink (lv 0) _ _ _ (HO.out.arr Link.enc_len) hln hmx (by omega)).mono ?_; rintro e w' ⟨A', c', rfl, hown, hb⟩)
  go_ret
  exact ⟨A', c', rfl, hown, hb⟩

/-- what is to the right on a level -/
def rightIn (l : List Link) (pos : ByteArray) (past : Bool) : Option Link := l.find? (fun y => !past || kl pos y.key)
def rightL (lv : Nat → List Link) (level : Int) (pos : ByteArray) (past : Bool) : Option Link := if 1 ≤ level ∧ level ≤ 4 then rightIn (lv (level - 1).toNat) pos past else none
theorem right_first (l : List Link) (pos : ByteArray) : rightIn l pos false = l[0]? := by
  cases l <;> simp [rightIn]
theorem right_past {l : List Link} (h : Rise l) (pos : ByteArray) : rightIn l pos true = l[posL l pos + (if hasL l pos = true then 1 else 0)]? := by
  obtain ⟨A, m, B, rfl, hA, hB, hm⟩ := rise_cut l pos h
  rw [cut_pos hA hB hm, cut_has hA hB hm]
  have e1 : A.find? (fun y => !true || kl pos y.key) = none := by
    rw [List.find?_eq_none]
    intro a ha
    simp [kl_asymm (hA a ha)]
  have e2 : B.find? (fun y => !true || kl pos y.key) = B[0]? := by
    cases B with
    | nil => rfl
    | cons b B => simp [hB b (by simp)]
  rw [rightIn, List.find?_append, e1, Option.none_or, List.find?_append, e2]
  rcases hm with rfl | ⟨y, rfl, hy⟩
  · simp [List.getElem?_append_right]
  · have : kl pos y.key = false := kl_false_of_eq hy.symm
    simp [this, List.getElem?_append_right]
/-- a link and whether there is one, as a result -/
def rightV (r : Option Link) : Value := .tuple #[.agg #[.string (r.getD link0).key, .int .u64 (r.getD link0).id, .int .u64 (r.getD link0).ver, .int .i64 (r.getD link0).line, .int .i64 (r.getD link0).cls], .bool r.isSome]
theorem right_nil (level : Int) (pos : ByteArray) (past : Bool) (w : World) : Calls Try.prog 11 #[.pointer none, .int .i64 level, .string pos, .bool past] w fun e w' => e = .returned (rightV none) ∧ Below w.heap.size w w' := by
  go_enter Try.func11, Try.ntmps11
  go_wp2
  refine bodyPost_ret (v := rightV none) (by simp [results, Try.results11, go_sem, rightV, link0]; rfl) rfl ⟨rfl, ?_⟩
  exact (by repeat (first | exact Below.refl _ _ | assumption | refine Below.drew ?_ | refine below_drewN ?_ _ | refine Below.alloc ?_ (by first | omega | (simp; done) | (simp; omega)) _ | refine Below.setCell ?_ (by first | omega | (simp; done) | (simp; omega)) _))
theorem right_out {ob : Nat} (level : Int) (hl : level < 1 ∨ 4 < level) (pos : ByteArray) (past : Bool) (w : World) : Calls Try.prog 11 #[.pointer (some ⟨ob, 0, none⟩), .int .i64 level, .string pos, .bool past] w fun e w' => e = .returned (rightV none) ∧ Below w.heap.size w w' := by
  rcases hl with hl | hl
  · go_enter Try.func11, Try.ntmps11
    go_wp2
    refine bodyPost_ret (v := rightV none) (by simp [results, Try.results11, go_sem, rightV, link0]; rfl) rfl ⟨rfl, ?_⟩
    exact (by repeat (first | exact Below.refl _ _ | assumption | refine Below.drew ?_ | refine below_drewN ?_ _ | refine Below.alloc ?_ (by first | omega | (simp; done) | (simp; omega)) _ | refine Below.setCell ?_ (by first | omega | (simp; done) | (simp; omega)) _))
  · have hl2 : ¬ level < 1 := by omega
    have hl3 : decide (level < 1) = false := by simpa using hl2
    go_enter Try.func11, Try.ntmps11
    go_wp2
    refine bodyPost_ret (v := rightV none) (by simp [results, Try.results11, go_sem, rightV, link0]; rfl) rfl ⟨rfl, ?_⟩
    exact (by repeat (first | exact Below.refl _ _ | assumption | refine Below.drew ?_ | refine below_drewN ?_ _ | refine Below.alloc ?_ (by first | omega | (simp; done) | (simp; omega)) _ | refine Below.setCell ?_ (by first | omega | (simp; done) | (simp; omega)) _))
set_option maxHeartbeats 20000000 in
theorem right_in {F : Nat → Prop} {lv : Nat → List Link} {ob k : Nat} (hk : k < 4) (pos : ByteArray) (past : Bool) (w : World) (h : Ord F w ob lv) (hr : Rise (lv k)) (hlen : (lv k).length ≤ 100000) : Calls Try.prog 11 #[.pointer (some ⟨ob, 0, none⟩), .int .i64 (k + 1), .string pos, .bool past] w fun e w' => e = .returned (rightV (rightIn (lv k) pos past)) ∧ Below w.heap.size w w' := by
  obtain ⟨h0, A, c, h⟩ := h
  have hob := h.lt
  have c0 := h.cell k hk
  have hown := h.own k hk
  have HO := hid hown
  have hln := hown.len
  have hmx := hown.max
  have hl1 : decide ((k : Int) + 1 < 1) = false := by simp; omega
  have hl2 : ¬ (4 < (k : Int) + 1) := by omega
  have hk1 : (k : Int) < 4 := by omega
  obtain ⟨l, hl⟩ : ∃ l, l = lv k := ⟨_, rfl⟩
  rw [← hl] at c0 hown HO hln hr hlen ⊢
  have HR := hid hr
  clear h hr hl hown
  cases past with
  | false =>
    have HF := hid (right_first l pos)
    by_cases h1 : 0 < l.length
    · obtain ⟨b, off, hA, hB, k0, k1, k2, k3, k4⟩ := (HO.out.arr Link.enc_len).link h1
      rw [hA] at c0
      have hx : ¬ (l = []) := by intro e; rw [e] at h1; simp at h1
      simp only [Nat.zero_mul, Nat.add_zero] at k0 k1 k2 k3 k4
      go_enter Try.func11, Try.ntmps11
      go_wp2
      refine bodyPost_ret (v := rightV (some l[0])) (by simp [results, Try.results11, go_sem, rightV]) rfl ⟨by rw [HF.out, List.getElem?_eq_getElem h1], ?_⟩
      exact (by repeat (first | exact Below.refl _ _ | assumption | refine Below.drew ?_ | refine below_drewN ?_ _ | refine Below.alloc ?_ (by first | omega | (simp; done) | (simp; omega)) _ | refine Below.setCell ?_ (by first | omega | (simp; done) | (simp; omega)) _))
    · have h2 : l.length = 0 := by omega
      rw [h2] at c0
      go_enter Try.func11, Try.ntmps11
      go_wp2
      refine bodyPost_ret (v := rightV none) (by simp [results, Try.results11, go_sem, rightV, link0]; rfl) rfl ⟨by rw [HF.out, List.getElem?_eq_none (by omega)], ?_⟩
      exact (by repeat (first | exact Below.refl _ _ | assumption | refine Below.drew ?_ | refine below_drewN ?_ _ | refine Below.alloc ?_ (by first | omega | (simp; done) | (simp; omega)) _ | refine Below.setCell ?_ (by first | omega | (simp; done) | (simp; omega)) _))
  | true =>
    have HF := hid (right_past HR.out pos)
    go_enter Try.func11, Try.ntmps11
    go_wp2_with fail
    refine (find_any l HR.out _ _ pos _ (((HO.out.arr Link.enc_len).below (by repeat (first | exact Below.refl _ _ | assumption | refine Below.drew ?_ | refine below_drewN ?_ _ | refine Below.alloc ?_ (by first | omega | (simp; done) | (simp; omega)) _ | refine Below.setCell ?_ (by first | omega | (simp; done) | (simp; omega)) _))).more (by first | omega | (simp; done) | (simp; omega))) hln hmx hlen).mono ?_
    rintro e w1 ⟨rfl, hb1⟩
    have bw1 : Below w.heap.size w w1 := Below.trans (by repeat (first | exact Below.refl _ _ | assumption | refine Below.drew ?_ | refine below_drewN ?_ _ | refine Below.alloc ?_ (by first | omega | (simp; done) | (simp; omega)) _ | refine Below.setCell ?_ (by first | omega | (simp; done) | (simp; omega)) _)) (hb1.mono (by first | omega | (simp; done) | (simp; omega)))
    have hz1 : w.heap.size + 1 ≤ w1.heap.size := by have := hb1.size; simpa using this
    have f0 := hb1.frozen (p := ⟨w.heap.size, 0, none⟩) (by simp)
    have hcell : w1.cell? ⟨w.heap.size, 0, none⟩ = some (.string ByteArray.empty) := by rw [hb1.cell (by simp)]; simp [go_sem]; rfl
    have e0 : ∀ j, w1.cell? ⟨w.heap.size, j, none⟩ = _ := fun j => hb1.cell (p := ⟨w.heap.size, j, none⟩) (by simp)
    have e1 := e0 1
    have e2 := e0 2
    have e3 := e0 3
    have e4 := e0 4
    have g0 : ∀ j, w1.frozen? ⟨w.heap.size, j, none⟩ = _ := fun j => hb1.frozen (p := ⟨w.heap.size, j, none⟩) (by simp)
    have g1 := g0 1
    have g2 := g0 2
    have g3 := g0 3
    have g4 := g0 4
    simp [go_sem] at e1 e2 e3 e4 g1 g2 g3 g4 f0
    clear e0 g0 hb1
    obtain ⟨d, hd⟩ : ∃ d, d = posL l pos + (if hasL l pos = true then 1 else 0) := ⟨_, rfl⟩
    have hpl : posL l pos ≤ l.length := List.findIdx_le_length
    by_cases h1 : d < l.length
    · have HG : rightIn l pos true = some l[d] := by rw [HF.out, ← hd, List.getElem?_eq_getElem h1]
      have HGH := hid HG
      obtain ⟨b, off, hA, hB, k0, k1, k2, k3, k4⟩ := (((HO.out.arr Link.enc_len).below bw1)).link h1
      rw [hA]
      cases hh : hasL l pos with
      | true =>
        rw [hh, if_pos rfl] at hd
        have hx : ¬ ((l.length : Int) ≤ (posL l pos : Int) + 1) := by omega
        subst hd
        have hy : ((posL l pos : Int) + 1).toNat = posL l pos + 1 := by omega
        clear HG
        go_wp2
        refine bodyPost_ret (v := rightV (some l[posL l pos + 1])) (by simp [results, Try.results11, go_sem, rightV, e1, e2, e3, e4, hcell]) rfl ⟨by rw [HGH.out], ?_⟩
        exact (by repeat (first | exact Below.refl _ _ | assumption | refine Below.drew ?_ | refine below_drewN ?_ _ | refine Below.alloc ?_ (by first | omega | (simp; done) | (simp; omega)) _ | refine Below.setCell ?_ (by first | omega | (simp; done) | (simp; omega)) _))
      | false =>
        rw [hh, if_neg (by simp), Nat.add_zero] at hd
        have hx : ¬ (l.length ≤ posL l pos) := by omega
        subst hd
        clear HG
        go_wp2
        refine bodyPost_ret (v := rightV (some l[posL l pos])) (by simp [results, Try.results11, go_sem, rightV, e1, e2, e3, e4, hcell]) rfl ⟨by rw [HGH.out], ?_⟩
        exact (by repeat (first | exact Below.refl _ _ | assumption | refine Below.drew ?_ | refine below_drewN ?_ _ | refine Below.alloc ?_ (by first | omega | (simp; done) | (simp; omega)) _ | refine Below.setCell ?_ (by first | omega | (simp; done) | (simp; omega)) _))
    · have HG : rightIn l pos true = none := by rw [HF.out, ← hd, List.getElem?_eq_none (by omega)]
      have HGH := hid HG
      cases hh : hasL l pos with
      | true =>
        rw [hh, if_pos rfl] at hd
        have hx : (l.length : Int) ≤ (posL l pos : Int) + 1 := by omega
        clear HG
        go_wp2
        refine bodyPost_ret (v := rightV none) (by simp [results, Try.results11, go_sem, rightV, link0, e1, e2, e3, e4, hcell]; rfl) rfl ⟨by rw [HGH.out], ?_⟩
        exact (by repeat (first | exact Below.refl _ _ | assumption | refine Below.drew ?_ | refine below_drewN ?_ _ | refine Below.alloc ?_ (by first | omega | (simp; done) | (simp; omega)) _ | refine Below.setCell ?_ (by first | omega | (simp; done) | (simp; omega)) _))
      | false =>
        rw [hh, if_neg (by simp), Nat.add_zero] at hd
        have hx : l.length ≤ posL l pos := by omega
        clear HG
        go_wp2
        refine bodyPost_ret (v := rightV none) (by simp [results, Try.results11, go_sem, rightV, link0, e1, e2, e3, e4, hcell]; rfl) rfl ⟨by rw [HGH.out], ?_⟩
        exact (by repeat (first | exact Below.refl _ _ | assumption | refine Below.drew ?_ | refine below_drewN ?_ _ | refine Below.alloc ?_ (by first | omega | (simp; done) | (simp; omega)) _ | refine Below.setCell ?_ (by first | omega | (simp; done) | (simp; omega)) _))
theorem right_at {F : Nat → Prop} {lv : Nat → List Link} {ob k : Nat} (hk : k < 4) (level : Int) (hlv : level = (k : Int) + 1) (pos : ByteArray) (past : Bool) (w : World) (h : Ord F w ob lv) (hr : Rise (lv k)) (hlen : (lv k).length ≤ 100000) : Calls Try.prog 11 #[.pointer (some ⟨ob, 0, none⟩), .int .i64 level, .string pos, .bool past] w fun e w' => e = .returned (rightV (rightIn (lv k) pos past)) ∧ Below w.heap.size w w' := by
  subst hlv
  exact right_in hk pos past w h hr hlen
end Go.Proofs.Ythadifbbepcdiaa
