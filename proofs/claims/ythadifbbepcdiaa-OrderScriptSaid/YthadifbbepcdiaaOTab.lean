/- The reference's table of links: without, Get, Set, Drop, Right; two lists of links compared, one written over. -/
import Derived.Test.YthadifbbepcdiaaOWalk
import Derived.Test.YthadifbbepcdiaaORefS
import Derived.Laws.StructEq
namespace Go.Proofs.Ythadifbbepcdiaa
open Go.RowKit

/-- links as a result, in a row of the call's own -/
def GivesLinks (m : List Link) (w : World) (e : Ending) (w' : World) : Prop := ∃ A c, e = .returned (.slice A m.length c) ∧ Own Link.enc 29 5 w' w.heap.size A c m ∧ Below w.heap.size w w'
theorem own_below {lo : Nat} {w W W' : World} {A : Option Addr} {c : Nat} {m : List Link} (ho : Own Link.enc 29 5 W lo A c m) (hg : W.grownBy W' (rowOf A c)) (hb : Below lo w W) (hlo : lo ≤ W.heap.size) : Below lo w W' :=
  hb.grown hg hlo fun k hk => by
    unfold rowOf at hk
    split at hk
    · cases hk
    · rcases ho.lt with h0 | ⟨b, off, hA, hl, _⟩
      · exact absurd h0 ‹_›
      · rw [hA] at hk
        simp at hk
        omega
theorem row_new (w : World) (cs : Array Value) (t : TypeId) : (w.alloc (.cells cs t)).heap[w.heap.size]? = some (.cells cs t (0, 0)) := Array.getElem?_push_size
theorem dropL_succ {l : List Link} {key : ByteArray} {k : Nat} (hk : k < l.length) : dropL (l.take (k + 1)) key = if l[k].key = key then dropL (l.take k) key else dropL (l.take k) key ++ [l[k]] := by
  rw [List.take_succ_eq_append_getElem hk]
  unfold dropL
  rw [List.filter_append]
  by_cases h : l[k].key = key
  · simp [h]
  · simp [h]
set_option maxHeartbeats 4000000 in
set_option maxRecDepth 100000 in
theorem without_any (l : List Link) (A : Option Addr) (c : Nat) (key : ByteArray) (w : World) (hA : Arr Link.enc 5 w w.heap.size A l) (_hc : l.length ≤ c) (_hm : c ≤ 9223372036854775807) (hb : l.length ≤ 100000) :
    Calls Try.prog 26 #[.slice A l.length c, .string key] w (GivesLinks (dropL l key) w) := by
  have HA := hid hA
  have HB := hid hb
  clear hA
  go_enter Try.func26, Try.ntmps26
  go_wp2_with fail
  go_loopw [5, 6] (fun v5 v6 wr => ∃ (k : Nat) (A' : Option Addr) (c' : Nat), k ≤ l.length ∧ v5 = .slice A' (dropL (l.take k) key).length c' ∧ v6 = .int .i64 k ∧ Own Link.enc 29 5 wr w.heap.size A' c' (dropL (l.take k) key) ∧ Below w.heap.size w wr) (fun _ v6 _ => l.length - (intOf v6).toNat)
  case atStart => exact ⟨0, none, 0, Nat.zero_le _, rfl, rfl, Own.none_, Below.refl _ _⟩
  case round =>
    obtain ⟨k, A', c', hkl, rfl, rfl, hown, hbw⟩ := hrel
    have HOWN := hid hown
    have hsz := hbw.size
    clear hown
    by_cases hlt : k < l.length
    · obtain ⟨b, off, rfl, hB, k0, k1, k2, k3, k4⟩ := (HA.out.below hbw).link hlt
      have HS := hid (dropL_succ (key := key) hlt)
      have HLL := hid (Nat.le_trans (dropL_len (l.take k) key) (by rw [List.length_take]; exact Nat.min_le_left _ _))
      obtain ⟨M, hM⟩ : ∃ M, M = dropL (l.take k) key := ⟨_, rfl⟩
      rw [← hM] at HS HOWN HLL ⊢
      clear hM
      by_cases he : l[k].key = key
      · have hv : (l[k].key.toList == key.toList) = true := by rw [he]; simp
        have HS2 : Hid (dropL (l.take (k + 1)) key = M) := hid (by rw [HS.out, if_pos he])
        clear HS he
        go_wp2_with fail
        go_roundw
        case rel => exact ⟨k + 1, A', c', by omega, by rw [HS2.out], by go_num, by rw [HS2.out]; exact HOWN.out, hbw⟩
        case measure => simp [intOf]; omega
      · have hv : (l[k].key.toList == key.toList) = false := by rw [beq_eq_false_iff_ne]; exact fun e => he (toList_inj e)
        have HS2 : Hid (dropL (l.take (k + 1)) key = M ++ [l[k]]) := hid (by rw [HS.out, if_neg he])
        clear HS he
        go_wp2_with (at_builtin; go_loud (refine app_link (l := M) (m := [l[k]]) (A := A') (c := c') (lo := w.heap.size) _ rfl (.tmp 20) (.tmp 25) (by first | rfl | simp [Act.eval]) rfl (HOWN.out.alloc _) 1 rfl (arr_oneLink (vb := wr.heap.size) (x := l[k]) (row_new _ _ _)) (by have := HLL.out; have := HB.out; simp; omega) (by simp; omega) ?_); intro A2 c2 w2 hown2 hgr2 hloc2)
        go_roundw
        case rel => exact ⟨k + 1, A2, c2, by omega, by rw [HS2.out]; simp, by go_num, by rw [HS2.out]; exact hown2, own_below (HOWN.out.alloc _) hgr2 (by repeat (first | exact Below.refl _ _ | assumption | refine Below.drew ?_ | refine below_drewN ?_ _ | refine Below.alloc ?_ (by first | omega | (simp; done) | (simp; omega)) _ | refine Below.setCell ?_ (by first | omega | (simp; done) | (simp; omega)) _)) (by simp; omega)⟩
        case measure => simp [intOf]; omega
    · have hk : dropL (l.take k) key = dropL l key := by rw [List.take_of_length_le (by omega)]
      rw [hk] at HOWN ⊢
      go_wp2_with fail
      go_ret
      exact ⟨A', c', rfl, HOWN.out, hbw⟩

/-- a table in memory: a variable with a slice of links, none of which lies where the table stands -/
structure Tab (G : Nat → Prop) (w : World) (tb : Nat) (L : List Link) : Prop where
  here : G tb
  ex : ∃ A c, w.cell? ⟨tb, 0, none⟩ = some (.slice A L.length c) ∧ w.frozen? ⟨tb, 0, none⟩ = false ∧ Own Link.enc 29 5 w 0 A c L ∧ Lies G tb A c
theorem Tab.lt {G : Nat → Prop} {w : World} {tb : Nat} {L : List Link} (h : Tab G w tb L) : tb < w.heap.size := by
  obtain ⟨_, A, c, h1, _⟩ := h
  exact cell_lt h1
theorem Tab.only {F G : Nat → Prop} {w w' : World} {tb : Nat} {L : List Link} (h : Tab G w tb L) (ho : Only F w w') (hG : ∀ j, G j → ¬ F j) : Tab G w' tb L := by
  have hlt := h.lt
  obtain ⟨h0, A, c, h1, h2, h3, h4⟩ := h
  have hb := ho.block tb hlt (hG tb h0)
  exact ⟨h0, A, c, (cell_same_block (p := ⟨tb, 0, none⟩) hb).trans h1, (frozen_same_block (p := ⟨tb, 0, none⟩) hb).trans h2, h3.keep2 (h4.imp id fun hl b o hA hlt => ho.block b hlt (hG b (hl b o hA).1)), h4⟩
theorem Tab.below {G : Nat → Prop} {w w' : World} {tb : Nat} {L : List Link} (h : Tab G w tb L) (hb : Below w.heap.size w w') : Tab G w' tb L := by
  have hlt := h.lt
  obtain ⟨h0, A, c, h1, h2, h3, h4⟩ := h
  exact ⟨h0, A, c, (hb.cell (p := ⟨tb, 0, none⟩) hlt).trans h1, (hb.frozen (p := ⟨tb, 0, none⟩) hlt).trans h2, h3.below hb, h4⟩
theorem Tab.mono {F G : Nat → Prop} {w : World} {tb : Nat} {L : List Link} (h : Tab F w tb L) (hFG : ∀ j, F j → G j) : Tab G w tb L := by
  obtain ⟨h0, A, c, h1, h2, h3, h4⟩ := h
  exact ⟨hFG _ h0, A, c, h1, h2, h3, h4.mono hFG⟩
theorem Tab.trim {G : Nat → Prop} {w : World} {tb : Nat} {L : List Link} (h : Tab G w tb L) : Tab (fun j => G j ∧ j < w.heap.size) w tb L := by
  have hlt := h.lt
  obtain ⟨h0, A, c, h1, h2, h3, h4⟩ := h
  refine ⟨⟨h0, hlt⟩, A, c, h1, h2, h3, ?_⟩
  rcases h3.lt with hc | ⟨b, off, hA, _, hb⟩
  · exact .inl hc
  · rcases h4 with hl | hl
    · exact .inl hl
    · exact .inr fun b' o' hA' => by
        have := hl b' o' hA'
        rw [hA] at hA'
        cases hA'
        exact ⟨⟨this.1, hb⟩, this.2⟩

/-- the first link of a key -/
def lookL (L : List Link) (key : ByteArray) : Option Link := L.find? fun y => decide (y.key = key)
theorem look_has (L : List Link) (key : ByteArray) : (lookL L key).isSome = hasL L key := by
  unfold lookL hasL
  induction L with
  | nil => rfl
  | cons x L ih =>
    rw [List.find?_cons, List.any_cons]
    by_cases h : x.key = key
    · simp [h]
    · simp [h, ih]
theorem look_at {L : List Link} {key : ByteArray} {k : Nat} (hk : k < L.length) (h : ∀ i, (hi : i < L.length) → i < k → L[i].key ≠ key) (he : L[k].key = key) : lookL L key = some L[k] :=
  List.find?_eq_some_iff_getElem.2 ⟨by simpa using he, k, hk, rfl, fun j hj => by simpa using h j (by omega) hj⟩
theorem look_no {L : List Link} {key : ByteArray} (h : ∀ i, (hi : i < L.length) → L[i].key ≠ key) : lookL L key = none := by
  rw [lookL, List.find?_eq_none]
  intro x hx
  obtain ⟨i, hi, rfl⟩ := List.getElem_of_mem hx
  simpa using h i hi
set_option maxHeartbeats 4000000 in
set_option maxRecDepth 100000 in
theorem tget_any {G : Nat → Prop} {L : List Link} {tb : Nat} (key : ByteArray) (w : World) (h : Tab G w tb L) (_hlen : L.length ≤ 1000) :
    Calls Try.prog 25 #[.pointer (some ⟨tb, 0, none⟩), .string key] w fun e w' => e = .returned (rightV (lookL L key)) ∧ Below w.heap.size w w' := by
  have htb := h.lt
  obtain ⟨h0, A, c, h1, h2, h3, h4⟩ := h
  have HA := hid (h3.arr Link.enc_len)
  have hln := h3.len
  have hmx := h3.max
  clear h3 h4 h0
  go_enter Try.func25, Try.ntmps25
  go_wp2_with fail
  go_loop [6] (fun vi => ∃ k : Nat, k ≤ L.length ∧ vi = .int .i64 k ∧ Hid (∀ i, (hi : i < L.length) → i < k → L[i].key ≠ key)) (fun vi => L.length - (intOf vi).toNat)
  case atStart => exact ⟨0, Nat.zero_le _, rfl, hid fun _ _ h => absurd h (by omega)⟩
  case round =>
    obtain ⟨k, hkl, rfl, hs⟩ := hrel
    by_cases hlt : k < L.length
    · obtain ⟨b, off, rfl, hB, k0, k1, k2, k3, k4⟩ := HA.out.link hlt
      by_cases he : L[k].key = key
      · have hv : (L[k].key.toList == key.toList) = true := by rw [he]; simp
        have HK := hid (look_at hlt hs.out he)
        clear he
        go_wp2_with fail
        refine bodyPost_ret (v := rightV (some L[k])) (by simp [results, Try.results25, go_sem, rightV]) rfl ⟨by rw [HK.out], ?_⟩
        exact (by repeat (first | exact Below.refl _ _ | assumption | refine Below.drew ?_ | refine below_drewN ?_ _ | refine Below.alloc ?_ (by first | omega | (simp; done) | (simp; omega)) _ | refine Below.setCell ?_ (by first | omega | (simp; done) | (simp; omega)) _))
      · have hv : (L[k].key.toList == key.toList) = false := by rw [beq_eq_false_iff_ne]; exact fun e => he (toList_inj e)
        have HE := hid he
        clear he
        go_wp2_with fail
        refine ⟨⟨k + 1, by omega, by go_num, hid fun i hi hik => ?_⟩, by simp [intOf]; omega⟩
        rcases (by omega : i < k ∨ i = k) with h | rfl
        · exact hs.out i hi h
        · exact HE.out
    · have HK : Hid (lookL L key = none) := hid (look_no fun i hi => hs.out i hi (by omega))
      go_wp2_with fail
      refine bodyPost_ret (v := rightV none) (by simp [results, Try.results25, go_sem, rightV, link0]; rfl) rfl ⟨by rw [HK.out], ?_⟩
      exact (by repeat (first | exact Below.refl _ _ | assumption | refine Below.drew ?_ | refine below_drewN ?_ _ | refine Below.alloc ?_ (by first | omega | (simp; done) | (simp; omega)) _ | refine Below.setCell ?_ (by first | omega | (simp; done) | (simp; omega)) _))

/-- what the reference tells to the right -/
def refRight (L : List Link) (level : Int) (pos : ByteArray) (past : Bool) : Option Link := L.find? fun y => decide (1 ≤ level ∧ level ≤ (lvlOf y.key : Int)) && (!past || kl pos y.key)
theorem refRight_eq (L : List Link) (level : Int) (pos : ByteArray) (past : Bool) : refRight L level pos past = rightL (atLv L) level pos past := by
  unfold refRight rightL
  by_cases h : 1 ≤ level ∧ level ≤ 4
  · rw [if_pos h, rightIn, atLv, List.find?_filter]
    congr 1
    funext y
    have : decide (1 ≤ level ∧ level ≤ (lvlOf y.key : Int)) = onLv (level - 1).toNat y := by
      unfold onLv
      rw [decide_eq_decide]
      omega
    rw [this]
    cases onLv (level - 1).toNat y <;> simp
  · rw [if_neg h, List.find?_eq_none]
    intro y _
    have : decide (1 ≤ level ∧ level ≤ (lvlOf y.key : Int)) = false := by
      have := (lvlOf_pos y.key).2
      simp
      omega
    simp [this]
set_option maxHeartbeats 4000000 in
set_option maxRecDepth 100000 in
theorem tright_any {G : Nat → Prop} {L : List Link} {tb : Nat} (level : Int) (pos : ByteArray) (past : Bool) (w : World) (h : Tab G w tb L) (hlen : L.length ≤ 1000) (hkey : ∀ i, (hi : i < L.length) → L[i].key.size ≤ 1000000) :
    Calls Try.prog 18 #[.pointer (some ⟨tb, 0, none⟩), .int .i64 level, .string pos, .bool past] w fun e w' => e = .returned (rightV (refRight L level pos past)) ∧ Below w.heap.size w w' := by
  have htb := h.lt
  obtain ⟨h0, A, c, h1, h2, h3, h4⟩ := h
  have HA := hid (h3.arr Link.enc_len)
  have HKEY := hid hkey
  have hln := h3.len
  have hmx := h3.max
  clear h3 h4 h0 hkey
  go_enter Try.func18, Try.ntmps18
  go_wp2_with fail
  go_loop [10] (fun vi => ∃ k : Nat, k ≤ L.length ∧ vi = .int .i64 k ∧ Hid (∀ i, (hi : i < L.length) → i < k → (decide (1 ≤ level ∧ level ≤ (lvlOf L[i].key : Int)) && (!past || kl pos L[i].key)) = false)) (fun vi => L.length - (intOf vi).toNat)
  case atStart => exact ⟨0, Nat.zero_le _, rfl, hid fun _ _ h => absurd h (by omega)⟩
  case round =>
    obtain ⟨k, hkl, rfl, hs⟩ := hrel
    by_cases hlt : k < L.length
    · obtain ⟨b, off, rfl, hB, k0, k1, k2, k3, k4⟩ := HA.out.link hlt
      have HLV := hid (fun W => reflevel_any L[k].key (HKEY.out k hlt) W)
      obtain ⟨v, hv⟩ : ∃ v, v = lvlOf L[k].key := ⟨_, rfl⟩
      have HV := hid hv
      rw [← hv] at HLV
      clear hv
      have next : ((decide (1 ≤ level ∧ level ≤ (v : Int)) && (!past || kl pos L[k].key)) = false) → ∀ i, (hi : i < L.length) → i < k + 1 → (decide (1 ≤ level ∧ level ≤ (lvlOf L[i].key : Int)) && (!past || kl pos L[i].key)) = false := fun hf i hi hik => by
        rcases (by omega : i < k ∨ i = k) with h | rfl
        · exact hs.out i hi h
        · rw [← HV.out]; exact hf
      have HNEXT := hid next
      have HFOUND := hid (show ((decide (1 ≤ level ∧ level ≤ (v : Int)) && (!past || kl pos L[k].key)) = true) → refRight L level pos past = some L[k] from fun hf =>
        List.find?_eq_some_iff_getElem.2 ⟨by rw [← HV.out]; exact hf, k, hlt, rfl, fun j hj => by rw [hs.out j (by omega) hj]; rfl⟩)
      clear next
      by_cases t1 : 1 ≤ level
      · by_cases t2 : level ≤ (v : Int)
        · cases past with
          | false =>
            have HF := hid (HFOUND.out (by simp [t1, t2]))
            clear HFOUND HNEXT
            go_wp2_with fail
            refine (HLV.out _).mono ?_
            rintro e w1 ⟨rfl, rfl⟩
            go_wp2_with fail
            refine bodyPost_ret (v := rightV (some L[k])) (by simp [results, Try.results18, go_sem, rightV]) rfl ⟨by rw [HF.out], ?_⟩
            exact (by repeat (first | exact Below.refl _ _ | assumption | refine Below.drew ?_ | refine below_drewN ?_ _ | refine Below.alloc ?_ (by first | omega | (simp; done) | (simp; omega)) _ | refine Below.setCell ?_ (by first | omega | (simp; done) | (simp; omega)) _))
          | true =>
            cases hkl : kl pos L[k].key with
            | true =>
              have HF := hid (HFOUND.out (by simp [t1, t2, hkl]))
              have hbl : Op.bytesLess L[k].key.toList pos.toList = false := kl_asymm hkl
              have hbe : (L[k].key.toList == pos.toList) = false := by rw [beq_eq_false_iff_ne]; exact fun e => kl_ne hkl (toList_inj e).symm
              clear HFOUND HNEXT hkl
              go_wp2_with fail
              refine (HLV.out _).mono ?_
              rintro e w1 ⟨rfl, rfl⟩
              go_wp2_with fail
              refine bodyPost_ret (v := rightV (some L[k])) (by simp [results, Try.results18, go_sem, rightV]) rfl ⟨by rw [HF.out], ?_⟩
              exact (by repeat (first | exact Below.refl _ _ | assumption | refine Below.drew ?_ | refine below_drewN ?_ _ | refine Below.alloc ?_ (by first | omega | (simp; done) | (simp; omega)) _ | refine Below.setCell ?_ (by first | omega | (simp; done) | (simp; omega)) _))
            | false =>
              have HF := hid (HNEXT.out (by simp [t1, t2, hkl]))
              have hbl : Op.bytesLess L[k].key.toList pos.toList = true ∨ (L[k].key.toList == pos.toList) = true := by
                rcases kl_tri L[k].key pos with h | h | h
                · exact .inl h
                · exact .inr (by rw [h]; simp)
                · rw [hkl] at h; cases h
              clear HFOUND HNEXT hkl
              rcases hbl with hbl | hbl
              all_goals
                go_wp2_with fail
                refine (HLV.out _).mono ?_
                rintro e w1 ⟨rfl, rfl⟩
                go_wp2_with fail
                exact ⟨⟨k + 1, by omega, by go_num, HF⟩, by simp [intOf]; omega⟩
        · have HF := hid (HNEXT.out (by simp [t2]))
          clear HFOUND HNEXT
          go_wp2_with fail
          refine (HLV.out _).mono ?_
          rintro e w1 ⟨rfl, rfl⟩
          go_wp2_with fail
          exact ⟨⟨k + 1, by omega, by go_num, HF⟩, by simp [intOf]; omega⟩
      · have HF := hid (HNEXT.out (by simp [t1]))
        clear HFOUND HNEXT
        go_wp2_with fail
        exact ⟨⟨k + 1, by omega, by go_num, HF⟩, by simp [intOf]; omega⟩
    · have HK : Hid (refRight L level pos past = none) := hid (by
        rw [refRight, List.find?_eq_none]
        intro x hx
        obtain ⟨i, hi, rfl⟩ := List.getElem_of_mem hx
        rw [hs.out i hi (by omega)]
        simp)
      go_wp2_with fail
      refine bodyPost_ret (v := rightV none) (by simp [results, Try.results18, go_sem, rightV, link0]; rfl) rfl ⟨by rw [HK.out], ?_⟩
      exact (by repeat (first | exact Below.refl _ _ | assumption | refine Below.drew ?_ | refine below_drewN ?_ _ | refine Below.alloc ?_ (by first | omega | (simp; done) | (simp; omega)) _ | refine Below.setCell ?_ (by first | omega | (simp; done) | (simp; omega)) _))
end Go.Proofs.Ythadifbbepcdiaa
