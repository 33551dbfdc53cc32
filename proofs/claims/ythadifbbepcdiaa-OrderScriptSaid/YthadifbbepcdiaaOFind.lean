/- Where a key stands among links: the program's find, by slices.BinarySearchFunc; slices.Clone at links. -/
import Derived.Test.YthadifbbepcdiaaOPure
import Derived.Deep.RegionHeld3
namespace Go.Proofs.Ythadifbbepcdiaa
open Go.RowKit

theorem info_link : (Try.prog.info? 29).map (fun i => (i.zero, i.size, i.bytes)) = some (some (.agg #[.string ByteArray.empty, .int .u64 0, .int .u64 0, .int .i64 0, .int .i64 0]), 5, 48) := by kernel_rfl
theorem Arr.link {w : World} {B : Nat} {A : Option Addr} {l : List Link} (h : Arr Link.enc 5 w B A l) {i : Nat} (hi : i < l.length) :
    ∃ b off, A = some ⟨b, off, none⟩ ∧ b < B ∧ w.cell? ⟨b, off + i * 5, none⟩ = some (.string l[i].key) ∧ w.cell? ⟨b, off + i * 5 + 1, none⟩ = some (.int .u64 l[i].id) ∧ w.cell? ⟨b, off + i * 5 + 2, none⟩ = some (.int .u64 l[i].ver) ∧ w.cell? ⟨b, off + i * 5 + 3, none⟩ = some (.int .i64 l[i].line) ∧ w.cell? ⟨b, off + i * 5 + 4, none⟩ = some (.int .i64 l[i].cls) := by
  rcases h with h | ⟨b, off, hA, hB, hc⟩
  · subst h; simp at hi
  · exact ⟨b, off, hA, hB, hc i hi 0 _ rfl, hc i hi 1 _ rfl, hc i hi 2 _ rfl, hc i hi 3 _ rfl, hc i hi 4 _ rfl⟩
theorem find1_fn (x : Link) (key : ByteArray) (w : World) : Calls Try.prog 31 #[.agg #[.string x.key, .int .u64 x.id, .int .u64 x.ver, .int .i64 x.line, .int .i64 x.cls], .string key] w fun e w' => e = .returned (.int .i64 (cmpB x.key key)) ∧ Below w.heap.size w w' := by
  go_enter Try.func31, Try.ntmps31
  go_wp2_with (go_at_call 32; refine (cmp_any _ _ _).mono ?_; rintro e w' ⟨rfl, rfl⟩)
  go_ret
  exact ⟨rfl, (by repeat (first | exact Below.refl _ _ | assumption | refine Below.drew ?_ | refine below_drewN ?_ _ | refine Below.alloc ?_ (by first | omega | (simp; done) | (simp; omega)) _ | refine Below.setCell ?_ (by first | omega | (simp; done) | (simp; omega)) _))⟩
theorem posL_of {l : List Link} {key : ByteArray} {i : Nat} (h1 : ∀ q, (hq : q < l.length) → q < i → kl l[q].key key = true) (h2 : ∀ q, (hq : q < l.length) → i ≤ q → kl l[q].key key = false) (hi : i ≤ l.length) : posL l key = i := by
  unfold posL
  by_cases hlt : i < l.length
  · rw [List.findIdx_eq hlt]
    exact ⟨by simp [h2 i hlt (Nat.le_refl _)], fun j hj => by simp [h1 j (by omega) hj]⟩
  · obtain rfl : i = l.length := by omega
    rw [List.findIdx_eq_length]
    intro x hx
    obtain ⟨q, hq, rfl⟩ := List.mem_iff_getElem.1 hx
    simp [h1 q hq hq]
theorem rise_lt {l : List Link} (h : Rise l) {i j : Nat} (hj : j < l.length) (hij : i < j) : kl (l[i]'(by omega)).key l[j].key = true := List.pairwise_iff_getElem.1 h i j (by omega) hj hij
theorem hasL_at {l : List Link} (h : Rise l) {key : ByteArray} {i : Nat} (hp : posL l key = i) : hasL l key = decide (∃ hi : i < l.length, l[i].key = key) := by
  subst hp
  obtain ⟨A, m, B, rfl, hA, hB, hm⟩ := rise_cut l key h
  rw [cut_has hA hB hm]
  have hp := cut_pos hA hB hm
  rcases hm with rfl | ⟨y, rfl, hy⟩
  · symm
    simp only [List.isEmpty_nil, Bool.not_true, decide_eq_false_iff_not, hp]
    rintro ⟨hi, he⟩
    cases B with
    | nil => simp at hi
    | cons b B => simp at he; exact kl_ne (hB b (by simp)) he.symm
  · symm
    simp only [List.isEmpty_cons, Bool.not_false, decide_eq_true_eq, hp]
    exact ⟨by simp, by simpa using hy⟩
set_option maxHeartbeats 2000000 in
theorem search_any (l : List Link) (hl : Rise l) (A : Option Addr) (c : Nat) (key : ByteArray) (w : World) (hA : Arr Link.enc 5 w w.heap.size A l) (_hc : l.length ≤ c) (_hm : c ≤ 9223372036854775807) (hb : l.length ≤ 100000) :
    Calls Try.prog 30 #[.slice A l.length c, .string key, .func (.func 31) #[] #[]] w fun e w' => e = .returned (.tuple #[.int .i64 (posL l key : Nat), .bool (hasL l key)]) ∧ Below w.heap.size w w' := by
  have HA := hid hA
  have HL := hid hl
  clear hA hl
  go_enter Try.func30, Try.ntmps30
  go_wp2_with fail
  go_loopw [9, 10] (fun vi vj wr => ∃ i j : Nat, vi = .int .i64 i ∧ vj = .int .i64 j ∧ i ≤ j ∧ j ≤ l.length ∧ Below w.heap.size w wr ∧ Hid (∀ q, (hq : q < l.length) → q < i → kl l[q].key key = true) ∧ Hid (∀ q, (hq : q < l.length) → j ≤ q → kl l[q].key key = false)) (fun vi vj _ => (intOf vj).toNat - (intOf vi).toNat)
  case atStart => exact ⟨0, l.length, rfl, rfl, Nat.zero_le _, Nat.le_refl _, Below.refl _ _, hid fun _ _ h => absurd h (by omega), hid fun _ h h' => absurd h (by omega)⟩
  case round =>
    obtain ⟨i, j, rfl, rfl, hij, hjn, hbw, h1, h2⟩ := hrel
    have hbs := hbw.size
    by_cases hlt : i < j
    · obtain ⟨h, hh⟩ : ∃ h, h = (i + j) / 2 := ⟨_, rfl⟩
      have hhl : h < l.length := by omega
      have hih : i ≤ h := by omega
      have hhj : h < j := by omega
      have e1 : IntKind.u64.wrap ((i : Int) + (j : Int)) = (i : Int) + j := by rw [IntKind.wrap_u64]; omega
      have e2 : ((i : Int) + (j : Int)) / 2 = (h : Int) := by omega
      clear hh
      obtain ⟨b, off, rfl, hB, c0, c1, c2, c3, c4⟩ := (HA.out.below hbw).link hhl
      cases hk : kl l[h].key key with
      | true =>
        have e3 : cmpB l[h].key key = -1 := by rw [cmpB_kl, if_pos hk]
        go_wp2_with (go_at_call 31; refine (find1_fn l[h] key _).mono ?_; rintro e w' ⟨rfl, hb4⟩; rw [e3])
        go_roundw
        case rel =>
          refine ⟨h + 1, j, by go_num, rfl, by omega, hjn, hbw.trans (hb4.mono hbs), hid fun q hq hlt => ?_, h2⟩
          rcases (by omega : q < h ∨ q = h) with hqh | rfl
          · exact kl_trans (rise_lt HL.out hhl hqh) hk
          · exact hk
        case measure => simp [intOf]; omega
      | false =>
        have e3 : 0 ≤ cmpB l[h].key key := by rw [cmpB_kl, hk]; simp only [Bool.false_eq_true, if_false]; split <;> omega
        go_wp2_with (go_at_call 31; refine (find1_fn l[h] key _).mono ?_; rintro e w' ⟨rfl, hb4⟩)
        go_roundw
        case rel =>
          refine ⟨i, h, rfl, by go_num, hih, by omega, hbw.trans (hb4.mono hbs), h1, hid fun q hq hlt => ?_⟩
          rcases (by omega : h < q ∨ q = h) with hqh | rfl
          · cases e : kl l[q].key key with
            | false => rfl
            | true => have := kl_trans (rise_lt HL.out hq hqh) e; rw [hk] at this; cases this
          · exact hk
        case measure => simp [intOf]; omega
    · obtain rfl : i = j := by omega
      have hp : posL l key = i := posL_of h1.out h2.out hjn
      have hh := hasL_at HL.out hp
      have HP := hid hp
      by_cases hin : i < l.length
      · obtain ⟨b, off, rfl, hB, c0, c1, c2, c3, c4⟩ := (HA.out.below hbw).link hin
        by_cases hek : l[i].key = key
        · have e3 : cmpB l[i].key key = 0 := by rw [cmpB_kl, hek, kl_irrefl]; rfl
          have hh' : hasL l key = true := by rw [hh]; exact decide_eq_true ⟨hin, hek⟩
          have HH := hid hh'
          clear hh hek hp hh'
          go_wp2_with (go_at_call 31; refine (find1_fn l[i] key _).mono ?_; rintro e w' ⟨rfl, hb4⟩; rw [e3])
          refine bodyPost_ret (v := .tuple #[.int .i64 (i : Nat), .bool true]) (by simp [results, Try.results30, go_sem]) rfl ?_
          exact ⟨by rw [HP.out, HH.out], hbw.trans (hb4.mono hbs)⟩
        · have e3 : (cmpB l[i].key key == 0) = false := by
            rw [cmpB_kl]
            rcases kl_tri l[i].key key with h | h | h
            · simp [h]
            · exact absurd h hek
            · simp [h, kl_asymm h]
          have hh' : hasL l key = false := by rw [hh]; exact decide_eq_false fun ⟨_, h⟩ => hek h
          have HH := hid hh'
          clear hh hek hp hh'
          go_wp2_with (go_at_call 31; refine (find1_fn l[i] key _).mono ?_; rintro e w' ⟨rfl, hb4⟩)
          refine bodyPost_ret (v := .tuple #[.int .i64 (i : Nat), .bool false]) (by simp [results, Try.results30, go_sem]) rfl ?_
          exact ⟨by rw [HP.out, HH.out], hbw.trans (hb4.mono hbs)⟩
      · have hh' : hasL l key = false := by rw [hh]; exact decide_eq_false fun ⟨h, _⟩ => hin h
        have HH := hid hh'
        clear hh hp hh'
        go_wp2
        refine bodyPost_ret (v := .tuple #[.int .i64 (i : Nat), .bool false]) (by simp [results, Try.results30, go_sem]) rfl ?_
        exact ⟨by rw [HP.out, HH.out], hbw⟩
theorem find_any (l : List Link) (hl : Rise l) (A : Option Addr) (c : Nat) (key : ByteArray) (w : World) (hA : Arr Link.enc 5 w w.heap.size A l) (hc : l.length ≤ c) (hm : c ≤ 9223372036854775807) (hb : l.length ≤ 100000) :
    Calls Try.prog 22 #[.slice A l.length c, .string key] w fun e w' => e = .returned (.tuple #[.int .i64 (posL l key : Nat), .bool (hasL l key)]) ∧ Below w.heap.size w w' := by
  have HA := hid hA
  clear hA
  go_enter Try.func22, Try.ntmps22
  go_wp2_with (go_at_call 30; refine (search_any l hl _ c key _ HA.out hc hm hb).mono ?_; rintro e w' ⟨rfl, hb4⟩)
  refine bodyPost_ret (v := .tuple #[.int .i64 (posL l key : Nat), .bool (hasL l key)]) (by simp [results, Try.results22, go_sem]) rfl ?_
  exact ⟨rfl, hb4⟩
theorem app_link {ops : Array Oper} {rest : List Oper} {o : Oper} {a : Act} {Q : Exit → Act → World → Prop} (w : World) (hgd : o.guard = none) (s x : Operand)
    (ho : o.op = .call { callee := .builtin .append, args := #[s, x], argTypes := #[36, 36] }) {lo : Nat} {A : Option Addr} {c : Nat} {l : List Link} (hs : a.eval s = .slice A l.length c) (own : Own Link.enc 29 5 w lo A c l)
    {B : Nat} {A2 : Option Addr} {m : List Link} (c2 : Nat) (hx : a.eval x = .slice A2 m.length c2) (arr : Arr Link.enc 5 w B A2 m) (hb : l.length + m.length ≤ 1000000) (hlo : lo ≤ w.heap.size)
    (h : ∀ A' c' w', Own Link.enc 29 5 w' lo A' c' (l ++ m) → w.grownBy w' (rowOf A c) → (A' = A ∧ c' = c ∨ ∃ g, A' = some ⟨g, 0, none⟩ ∧ w.heap.size ≤ g) → wpList Try.prog ops Q rest (a.put o.dst (.slice A' (l.length + m.length) c')) w') :
    wpList Try.prog ops Q (o :: rest) a w := by
  obtain ⟨i0, hi, hz0, hz1, hz2⟩ := info_parts info_link
  exact wpList_append_Own w hgd s x 36 ho i0 _ 48 Try.underlying36 hi hz0 hz1 hz2 rfl (by decide) Link.enc_len Link.enc_one hs own c2 hx arr (by unfold maxLen; omega) (by omega) hlo h
set_option maxHeartbeats 1000000 in
theorem cloneLink (l : List Link) (A : Option Addr) (c : Nat) (w : World) (hA : Arr Link.enc 5 w w.heap.size A l) (hc : l.length ≤ c) (_hm : c ≤ 9223372036854775807) (hb : l.length ≤ 1000000) :
    Calls Try.prog 29 #[.slice A l.length c] w fun e w' => ∃ A' c', e = .returned (.slice A' l.length c') ∧ Own Link.enc 29 5 w' w.heap.size A' c' l ∧ Below w.heap.size w w' := by
  have HB := hid hb
  clear hb
  have hnil := fun W : World => Lib.run_eql_slice_nil (P := Try.prog) W 36 29 A l.length c 0 0 Try.underlying36
  cases A with
  | none =>
    go_enter Try.func29, Try.ntmps29
    go_wp2
    go_ret
    have hl : l = [] := by
      rcases hA with h | ⟨b, off, h, _⟩
      · exact h
      · cases h
    subst hl
    exact ⟨none, 0, rfl, Own.none_, Below.refl _ _⟩
  | some a =>
    go_enter Try.func29, Try.ntmps29
    go_wp2_with (at_builtin; refine app_link (l := []) (m := l) _ rfl (.tmp 5) (.tmp 6) rfl rfl (Own.zero (lo := w.heap.size)) c rfl (hA.below ((Below.refl _ w).alloc (Nat.le_refl _) _)) (by simpa using HB.out) (by simp) ?_; intro A' c' w' hown hgr hloc)
    go_ret
    refine ⟨A', c', by simp, by simpa using hown, ((Below.refl _ w).alloc (Nat.le_refl _) _).grown hgr (by simp) (fun k hk => ?_)⟩
    simp [rowOf] at hk
end Go.Proofs.Ythadifbbepcdiaa
