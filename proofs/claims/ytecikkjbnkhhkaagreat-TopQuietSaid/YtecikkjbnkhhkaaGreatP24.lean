/- A part of the walk. -/
import Derived.Test.YtecikkjbnkhhkaaGreatP23
import Derived.Shelf.SlIter.Nil
import Derived.Shelf.SortM.Plain
import Derived.Shelf.SortM.SortNone
import Derived.Shelf.SlSortCmp.NoneTotal
import Derived.Deep.CutBlock
namespace Go.Proofs.YtecikkjbnkhhkaaGreat
open _root_.Go.Proofs.Tryz
set_option maxHeartbeats 4000000
set_option maxRecDepth 100000
section
open Go.Shelf
def qho : Go.Shelf.Ren := ⟨fun | 7 => 298 | 10 => 335 | n => n, fun | 23 => 195 | 26 => 9 | 3 => 85 | 28 => 411 | 0 => 0 | 27 => 410 | 33 => 441 | 4 => 4 | n => n, fun | n => n⟩
theorem qz3 : Go.Proofs.SlLaysZ.n7 prog qho := {
 mixed := by kernel_rfl
 f7 := ⟨Tryz.f298.name, by decide, func298.trans (congrArg some (by kernel_rfl))⟩
 f10 := ⟨Tryz.f335.name, by decide, func335.trans (congrArg some (by kernel_rfl))⟩
 t0 := underlying0
 a0 := Tryz.isAgg0
 z0 := Tryz.sizeOf0
 v0 := Tryz.zeroValue0
 t4 := underlying4
 a4 := Tryz.isAgg4
 z4 := Tryz.sizeOf4
 v4 := Tryz.zeroValue4
 t23 := underlying195
 a23 := Tryz.isAgg195
 z23 := Tryz.sizeOf195
 v23 := Tryz.zeroValue195
 t26 := underlying9
 a26 := Tryz.isAgg9
 z26 := Tryz.sizeOf9
 v26 := Tryz.zeroValue9
 t27 := underlying410
 a27 := Tryz.isAgg410
 z27 := Tryz.sizeOf410
 v27 := Tryz.zeroValue410
 t28 := underlying411
 a28 := Tryz.isAgg411
 z28 := Tryz.sizeOf411
 v28 := Tryz.zeroValue411
 t33 := underlying441
 a33 := Tryz.isAgg441
 z33 := Tryz.sizeOf441
 v33 := Tryz.zeroValue441 }
def qh8 : Go.Shelf.Ren := ⟨fun | 6 => 297 | 8 => 333 | 9 => 334 | 11 => 361 | 13 => 126 | 12 => 362 | 23 => 170 | 24 => 171 | 14 => 374 | 15 => 375 | 16 => 376 | 17 => 377 | 18 => 378 | 19 => 379 | 20 => 380 | 21 => 381 | 22 => 382 | 25 => 387 | 26 => 222 | 27 => 223 | 28 => 388 | 29 => 389 | 30 => 390 | 31 => 391 | n => n, fun | 26 => 9 | 28 => 411 | 24 => 46 | 0 => 0 | 3 => 3 | 37 => 104 | 48 => 129 | 50 => 55 | 4 => 4 | 40 => 315 | 39 => 314 | 45 => 319 | 5 => 5 | 9 => 9 | 51 => 345 | 55 => 348 | 57 => 399 | 58 => 400 | 33 => 441 | n => n, fun | n => n⟩
theorem qrv : Go.Proofs.SlLaysZ.n6 prog qh8 := {
 mixed := by kernel_rfl
 f6 := ⟨Tryz.f297.name, by decide, func297.trans (congrArg some (by kernel_rfl))⟩
 f8 := ⟨Tryz.f333.name, by decide, func333.trans (congrArg some (by kernel_rfl))⟩
 f11 := ⟨Tryz.f361.name, by decide, func361.trans (congrArg some (by kernel_rfl))⟩
 t0 := underlying0
 a0 := Tryz.isAgg0
 z0 := Tryz.sizeOf0
 v0 := Tryz.zeroValue0
 t24 := underlying46
 a24 := Tryz.isAgg46
 z24 := Tryz.sizeOf46
 v24 := Tryz.zeroValue46
 t26 := underlying9
 a26 := Tryz.isAgg9
 z26 := Tryz.sizeOf9
 v26 := Tryz.zeroValue9
 t28 := underlying411
 a28 := Tryz.isAgg411
 z28 := Tryz.sizeOf411
 v28 := Tryz.zeroValue411
 i26 := by kernel_rfl }
def qrw : Go.Shelf.Ren := ⟨fun | 6 => 334 | 8 => 126 | 9 => 362 | 19 => 170 | 20 => 171 | 21 => 374 | 22 => 375 | 23 => 376 | 24 => 377 | 25 => 378 | 26 => 379 | 27 => 380 | 28 => 381 | 29 => 382 | 36 => 387 | 31 => 222 | 32 => 223 | 37 => 388 | 38 => 389 | 39 => 390 | 41 => 391 | n => n, fun | 27 => 46 | 29 => 9 | 3 => 3 | 32 => 104 | 26 => 46 | 0 => 0 | 44 => 129 | 46 => 55 | 4 => 4 | 36 => 315 | 35 => 314 | 41 => 319 | 5 => 5 | 9 => 9 | 53 => 345 | 57 => 348 | 63 => 399 | 64 => 400 | n => n, fun | n => n⟩
theorem qA6 : Go.Proofs.SlLaysM.n6 prog qrw := {
 mixed := by kernel_rfl
 f6 := ⟨Tryz.f334.name, by decide, func334.trans (congrArg some (by kernel_rfl))⟩
 f8 := func126.trans (congrArg some (by kernel_rfl))
 f9 := ⟨Tryz.f362.name, by decide, func362.trans (congrArg some (by kernel_rfl))⟩
 f19 := func170.trans (congrArg some (by kernel_rfl))
 f20 := func171.trans (congrArg some (by kernel_rfl))
 f21 := ⟨Tryz.f374.name, by decide, func374.trans (congrArg some (by kernel_rfl))⟩
 f22 := ⟨Tryz.f375.name, by decide, func375.trans (congrArg some (by kernel_rfl))⟩
 f23 := ⟨Tryz.f376.name, by decide, func376.trans (congrArg some (by kernel_rfl))⟩
 f24 := ⟨Tryz.f377.name, by decide, func377.trans (congrArg some (by kernel_rfl))⟩
 f25 := ⟨Tryz.f378.name, by decide, func378.trans (congrArg some (by kernel_rfl))⟩
 f26 := ⟨Tryz.f379.name, by decide, func379.trans (congrArg some (by kernel_rfl))⟩
 f27 := ⟨Tryz.f380.name, by decide, func380.trans (congrArg some (by kernel_rfl))⟩
 f28 := ⟨Tryz.f381.name, by decide, func381.trans (congrArg some (by kernel_rfl))⟩
 f29 := ⟨Tryz.f382.name, by decide, func382.trans (congrArg some (by kernel_rfl))⟩
 f31 := func222.trans (congrArg some (by kernel_rfl))
 f32 := func223.trans (congrArg some (by kernel_rfl))
 f36 := ⟨Tryz.f387.name, by decide, func387.trans (congrArg some (by kernel_rfl))⟩
 f37 := ⟨Tryz.f388.name, by decide, func388.trans (congrArg some (by kernel_rfl))⟩
 f38 := ⟨Tryz.f389.name, by decide, func389.trans (congrArg some (by kernel_rfl))⟩
 f39 := ⟨Tryz.f390.name, by decide, func390.trans (congrArg some (by kernel_rfl))⟩
 f41 := ⟨Tryz.f391.name, by decide, func391.trans (congrArg some (by kernel_rfl))⟩
 t0 := underlying0
 a0 := Tryz.isAgg0
 z0 := Tryz.sizeOf0
 v0 := Tryz.zeroValue0
 t3 := underlying3
 a3 := Tryz.isAgg3
 z3 := Tryz.sizeOf3
 v3 := Tryz.zeroValue3
 t4 := underlying4
 a4 := Tryz.isAgg4
 z4 := Tryz.sizeOf4
 v4 := Tryz.zeroValue4
 t5 := underlying5
 a5 := Tryz.isAgg5
 z5 := Tryz.sizeOf5
 v5 := Tryz.zeroValue5
 t9 := underlying9
 a9 := Tryz.isAgg9
 z9 := Tryz.sizeOf9
 v9 := Tryz.zeroValue9
 t26 := underlying46
 a26 := Tryz.isAgg46
 z26 := Tryz.sizeOf46
 v26 := Tryz.zeroValue46
 t27 := underlying46
 a27 := Tryz.isAgg46
 z27 := Tryz.sizeOf46
 v27 := Tryz.zeroValue46
 t29 := underlying9
 a29 := Tryz.isAgg9
 z29 := Tryz.sizeOf9
 v29 := Tryz.zeroValue9
 t32 := underlying104
 a32 := Tryz.isAgg104
 z32 := Tryz.sizeOf104
 v32 := Tryz.zeroValue104
 t35 := underlying314
 a35 := Tryz.isAgg314
 z35 := Tryz.sizeOf314
 v35 := Tryz.zeroValue314
 t36 := underlying315
 a36 := Tryz.isAgg315
 z36 := Tryz.sizeOf315
 v36 := Tryz.zeroValue315
 t41 := underlying319
 a41 := Tryz.isAgg319
 z41 := Tryz.sizeOf319
 v41 := Tryz.zeroValue319
 t44 := underlying129
 a44 := Tryz.isAgg129
 z44 := Tryz.sizeOf129
 v44 := Tryz.zeroValue129
 t46 := underlying55
 a46 := Tryz.isAgg55
 z46 := Tryz.sizeOf55
 v46 := Tryz.zeroValue55
 t53 := underlying345
 a53 := Tryz.isAgg345
 z53 := Tryz.sizeOf345
 v53 := Tryz.zeroValue345
 t57 := underlying348
 a57 := Tryz.isAgg348
 z57 := Tryz.sizeOf348
 v57 := Tryz.zeroValue348
 t63 := underlying399
 a63 := Tryz.isAgg399
 z63 := Tryz.sizeOf399
 v63 := Tryz.zeroValue399
 t64 := underlying400
 a64 := Tryz.isAgg400
 z64 := Tryz.sizeOf400
 v64 := Tryz.zeroValue400 }
def qh9 : Go.Shelf.Ren := ⟨fun | 6 => 94 | 15 => 126 | 14 => 125 | 28 => 170 | 29 => 171 | 20 => 162 | 21 => 163 | 22 => 164 | 23 => 165 | 24 => 166 | 25 => 167 | 26 => 168 | 27 => 169 | 46 => 221 | 47 => 222 | 48 => 223 | 49 => 224 | 50 => 225 | 57 => 286 | n => n, fun | 22 => 141 | 24 => 85 | 25 => 201 | 3 => 3 | 39 => 104 | 0 => 0 | 53 => 129 | 55 => 55 | 4 => 4 | 46 => 315 | 45 => 314 | 50 => 319 | 5 => 5 | 9 => 9 | 66 => 345 | 70 => 348 | 76 => 399 | 77 => 400 | n => n, fun | n => n⟩
theorem qA7 : Go.Proofs.SlLaysF0.n6 prog qh9 := {
 mixed := by kernel_rfl
 f6 := ⟨Tryz.f94.name, by decide, func94.trans (congrArg some (by kernel_rfl))⟩
 f14 := ⟨Tryz.f125.name, by decide, func125.trans (congrArg some (by kernel_rfl))⟩
 f15 := func126.trans (congrArg some (by kernel_rfl))
 f20 := ⟨Tryz.f162.name, by decide, func162.trans (congrArg some (by kernel_rfl))⟩
 f21 := ⟨Tryz.f163.name, by decide, func163.trans (congrArg some (by kernel_rfl))⟩
 f22 := ⟨Tryz.f164.name, by decide, func164.trans (congrArg some (by kernel_rfl))⟩
 f23 := ⟨Tryz.f165.name, by decide, func165.trans (congrArg some (by kernel_rfl))⟩
 f24 := ⟨Tryz.f166.name, by decide, func166.trans (congrArg some (by kernel_rfl))⟩
 f25 := ⟨Tryz.f167.name, by decide, func167.trans (congrArg some (by kernel_rfl))⟩
 f26 := ⟨Tryz.f168.name, by decide, func168.trans (congrArg some (by kernel_rfl))⟩
 f27 := ⟨Tryz.f169.name, by decide, func169.trans (congrArg some (by kernel_rfl))⟩
 f28 := func170.trans (congrArg some (by kernel_rfl))
 f29 := func171.trans (congrArg some (by kernel_rfl))
 f46 := ⟨Tryz.f221.name, by decide, func221.trans (congrArg some (by kernel_rfl))⟩
 f47 := func222.trans (congrArg some (by kernel_rfl))
 f48 := func223.trans (congrArg some (by kernel_rfl))
 f49 := ⟨Tryz.f224.name, by decide, func224.trans (congrArg some (by kernel_rfl))⟩
 f50 := ⟨Tryz.f225.name, by decide, func225.trans (congrArg some (by kernel_rfl))⟩
 f57 := ⟨Tryz.f286.name, by decide, func286.trans (congrArg some (by kernel_rfl))⟩
 t0 := underlying0
 a0 := Tryz.isAgg0
 z0 := Tryz.sizeOf0
 v0 := Tryz.zeroValue0
 t3 := underlying3
 a3 := Tryz.isAgg3
 z3 := Tryz.sizeOf3
 v3 := Tryz.zeroValue3
 t4 := underlying4
 a4 := Tryz.isAgg4
 z4 := Tryz.sizeOf4
 v4 := Tryz.zeroValue4
 t5 := underlying5
 a5 := Tryz.isAgg5
 z5 := Tryz.sizeOf5
 v5 := Tryz.zeroValue5
 t9 := underlying9
 a9 := Tryz.isAgg9
 z9 := Tryz.sizeOf9
 v9 := Tryz.zeroValue9
 t22 := underlying141
 a22 := Tryz.isAgg141
 z22 := Tryz.sizeOf141
 v22 := Tryz.zeroValue141
 t25 := underlying201
 a25 := Tryz.isAgg201
 z25 := Tryz.sizeOf201
 v25 := Tryz.zeroValue201
 t39 := underlying104
 a39 := Tryz.isAgg104
 z39 := Tryz.sizeOf104
 v39 := Tryz.zeroValue104
 t45 := underlying314
 a45 := Tryz.isAgg314
 z45 := Tryz.sizeOf314
 v45 := Tryz.zeroValue314
 t46 := underlying315
 a46 := Tryz.isAgg315
 z46 := Tryz.sizeOf315
 v46 := Tryz.zeroValue315
 t50 := underlying319
 a50 := Tryz.isAgg319
 z50 := Tryz.sizeOf319
 v50 := Tryz.zeroValue319
 t53 := underlying129
 a53 := Tryz.isAgg129
 z53 := Tryz.sizeOf129
 v53 := Tryz.zeroValue129
 t55 := underlying55
 a55 := Tryz.isAgg55
 z55 := Tryz.sizeOf55
 v55 := Tryz.zeroValue55
 t66 := underlying345
 a66 := Tryz.isAgg345
 z66 := Tryz.sizeOf345
 v66 := Tryz.zeroValue345
 t70 := underlying348
 a70 := Tryz.isAgg348
 z70 := Tryz.sizeOf348
 v70 := Tryz.zeroValue348
 t76 := underlying399
 a76 := Tryz.isAgg399
 z76 := Tryz.sizeOf399
 v76 := Tryz.zeroValue399
 t77 := underlying400
 a77 := Tryz.isAgg400
 z77 := Tryz.sizeOf400
 v77 := Tryz.zeroValue400 }
end
section
open Go.RowKit Go.Shelf Go.Sort
instance : Inhabited qa3 := ⟨qak⟩
theorem qly {l : List qa3} {t : Nat} (ht : t < l.length * 5) : (l.flatMap qa3.enc)[t]? = some ((flatK qa3.enc 5 l.toArray)[t]!) := by
 have hi : t / 5 < l.length := by omega
 have h := qb0 qa3.enc_len l (t / 5) hi (t % 5) (by omega); rw [show t / 5 * 5 + t % 5 = t by omega] at h; rw [h, get_flatK _ _ _ _ (by simpa using ht)]; have e : l.toArray[t / 5]! = l[t / 5] := by rw [getElem!_pos l.toArray (t / 5) (by simpa using hi)]; simp
 rw [e, getElem!_pos (l[t / 5].enc) (t % 5) (by rw [qa3.enc_len]; omega), List.getElem?_eq_getElem (by rw [qa3.enc_len]; omega)]
theorem qxd (x y : qa3) (W : World) : Calls prog 95 #[.agg #[.string x.key, .int .u64 (x.id : Int), .int .u64 (x.ver : Int), .int .i64 x.line, .int .i64 x.cls], .agg #[.string y.key, .int .u64 (y.id : Int), .int .u64 (y.ver : Int), .int .i64 y.line, .int .i64 y.cls]] W fun e w' => e = .returned (.int .i64 (cmpB x.key y.key)) ∧ ∃ q os', w' = grow (W.drewN q) os' := by
 go_enter func95, ntmps95; go_wp2_with (go_at_call 96; refine (qtj _ _ _).mono ?_; rintro e w' ⟨rfl, rfl⟩); go_ret; exact ⟨rfl, 0, _, by rw [alloc_eq_grow, alloc_eq_grow, grow_grow]; rfl⟩
theorem qw4 (x y : qa3) : ltOf (fun x y : qa3 => cmpB x.key y.key) x y = kl x.key y.key := by
 show decide (cmpB x.key y.key < 0) = kl x.key y.key
 rw [qhw]; cases h : kl x.key y.key with
 | true => simp
 | false => simp only [Bool.false_eq_true, if_false]; split <;> simp
theorem qve : SWO (ltOf fun x y : qa3 => cmpB x.key y.key) where
 irrefl x := by rw [qw4, qdh]
 trans x y z h1 h2 := by rw [qw4] at *; exact qeh h1 h2
 ntrans x y z h1 h2 := by
  rw [qw4] at *; cases h : kl x.key z.key with
  | false => rfl
  | true =>
   rcases qsq y.key x.key with h3 | h3 | h3
   · have := qeh h3 h; rw [h2] at this; cases this
   · rw [h3] at h2; rw [h2] at h; cases h
   · rw [h1] at h3; cases h3
def qud (lo : Nat) (A : Option Addr) (c : Nat) (l : List qa3) (w : World) (e : Ending) (w' : World) : Prop :=
 e = .returned (.tuple #[]) ∧ ∃ l', l'.Perm l ∧ l'.Pairwise (fun x y => kl y.key x.key = false) ∧ Own qa3.enc 85 5 w' lo A c l' ∧ Only (fun j => some j = qa8 A c) w w'
theorem qjr (l : List qa3) (A : Option Addr) (c lo : Nat) (w : World) (own : Own qa3.enc 85 5 w lo A c l) (hl : l.length ≤ 1000000) : Calls prog 94 #[.slice A l.length c, .func (.func 95) #[] #[]] w (qud lo A c l w) := by
 by_cases h0 : l.length = 0
 · have hn : l = [] := List.eq_nil_of_length_eq_zero h0
   subst hn; have h := AnyF.slices_SortFunc_none qA7 A c (.func (.func 95) #[] #[]) w; refine Calls.mono h ?_; rintro e w' ⟨rfl, rfl⟩; exact ⟨rfl, [], List.Perm.refl _, List.Pairwise.nil, own, Only.refl _ _⟩
 · obtain ⟨b, off, cur, rfl, hlo, hh, hs, hc⟩ : ∃ b off cur, A = some ⟨b, off, none⟩ ∧ lo ≤ b ∧ w.heap[b]? = some (.cells cur 85 (0, 0)) ∧ off + c * 5 ≤ cur.size ∧ ∀ j (u : Value), (l.flatMap qa3.enc)[j]? = some u → cur[off + j]? = some u := by
    have hlc := own.1; rcases own.2.2 with h | h
    · omega
    · exact h
   have hlc : l.length ≤ c := own.1; have hrow : qa8 (some (⟨b, off, none⟩ : Addr)) c = some b := by rw [qa8, if_neg (by omega)]; rfl
   have hblk := qa0 hh; have eg : ∀ args w, (callFunc 95 args).run prog w = .ok (.enter 95 args) w := enters_of func95 (by kernel_rfl) rfl; have hH : HoldsK qa3.enc 5 w b off l.toArray := fun j hj => by
    rw [size_flatK] at hj; have hj' : j < l.length * 5 := by simpa using hj
    refine ⟨?_, frozen_of_row w b _ _ _ hh⟩; rw [cell_of_row w b _ _ _ _ hh]; exact hc j _ (qly hj')
   have aE : ∀ w, (isAgg (qh9.t 24)).run prog w = .ok true w := fun w => by kernel_rfl
   have zE : ∀ w, (Go.sizeOf (qh9.t 24)).run prog w = .ok 5 w := fun w => by kernel_rfl
   have h := AnyQ.slices_SortFunc qA7 5 aE zE qa3.enc qa3.enc_len qa3.enc_one (fun x y => cmpB x.key y.key) qve 95 #[] b off c l.toArray w eg (fun m os dk hs x y => qxd x y _) hH hblk (by simp; omega); have h' : Calls prog 94 #[.slice (some ⟨b, off, none⟩) l.length c, .func (.func 95) #[] #[]] w _ := h; refine Calls.mono h' ?_; rintro e w' ⟨rfl, d', n, os, hp, hsrt, rfl⟩; have hsz : d'.size = l.length := by have := hp.1; simpa using this
   obtain ⟨l', rfl⟩ : ∃ l', d' = l'.toArray := ⟨d'.toList, by simp⟩; have hln : l'.length = l.length := by simpa using hsz
   have hperm : l'.Perm l := by
    have := hp.2.2; simp only [List.size_toArray, List.extract_toArray, List.toList_toArray] at this; rw [List.extract_eq_take_drop, List.extract_eq_take_drop] at this; simpa [List.take_of_length_le (Nat.le_of_eq hln)] using this
   have hheap : ∀ k, k < w.heap.size → (sortWorldK qa3.enc 5 w b off n l'.toArray os).heap[k]? = if k = b then some (.cells (putCells id off (flatK qa3.enc 5 l'.toArray) cur) 85 (0, 0)) else w.heap[k]? := fun k hk => by
    show ((w.heap.modify b (onCells (putCells id off (flatK qa3.enc 5 l'.toArray)))) ++ os)[k]? = _
    rw [Array.getElem?_append_left (by simpa using hk), Array.getElem?_modify]; by_cases hkb : b = k
    · subst hkb
      rw [if_pos rfl, if_pos rfl, hh]; rfl
    · rw [if_neg hkb, if_neg (fun h => hkb h.symm)]
   refine ⟨rfl, l', hperm, ?_, ⟨by rw [hln]; exact hlc, own.2.1, .inr ⟨b, off, _, rfl, hlo, (hheap b hblk).trans (if_pos rfl), ?_, fun j u hu => ?_⟩⟩, ⟨rfl, rfl, rfl, ?_, fun j hj hne => (hheap j hj).trans (if_neg fun h => hne (by rw [hrow, h]))⟩⟩
   · rw [List.pairwise_iff_getElem]
     intro i j hi hj hij; have := hsrt i j (Nat.zero_le _) hij (by simpa [hln] using hj); rw [qw4, getElem!_pos l'.toArray j (by simpa using hj), getElem!_pos l'.toArray i (by simpa using hi)] at this; simpa using this
   · rw [putCells, Array.size_mapIdx]
     exact hs
   · have hjl : j < l'.length * 5 := by
      have := (List.getElem?_eq_some_iff.1 hu).1; rwa [qao qa3.enc_len] at this
     rw [qly hjl] at hu; have hjc : off + j < cur.size := by omega
     rw [putCells, Array.getElem?_mapIdx, Array.getElem?_eq_getElem hjc, Option.map_some, if_pos ⟨by omega, by rw [size_flatK]; simp; omega⟩, show off + j - off = j by omega]; exact hu
   · show w.heap.size ≤ (w.heap.modify b _ ++ os).size
     simp
end
section
open Go.RowKit
theorem Own.notObj {α : Type} {enc : α → List Value} {e : TypeId} {k : Nat} {w : World} {lo : Nat} {A : Option Addr} {c p : Nat} {l : List α} {o : Obj} (own : Own enc e k w lo A c l) (hb : w.heap[p]? = some o) (hne : ∀ cs t, o ≠ .cells cs t (0, 0)) : some p ≠ qa8 A c := by
 intro h0; rcases own.2.2 with h1 | ⟨b, off, cur, hA, _, hh, _⟩
 · rw [qa8, if_pos h1] at h0; cases h0
 · rw [qa8] at h0
   split at h0
   · cases h0
   · rw [hA] at h0
     have : p = b := by simpa using h0
     subst this; rw [hb] at hh; exact hne _ _ (Option.some.inj hh)
theorem Own.grown2 {α : Type} {enc : α → List Value} {e : TypeId} {k : Nat} {w w' : World} {lo : Nat} {A : Option Addr} {c : Nat} {l : List α} {row : Option Nat} (own : Own enc e k w lo A c l) (hg : w.grownBy w' row) (hne : row = none ∨ row ≠ qa8 A c) : Own enc e k w' lo A c l := by
 refine own.keep2 ?_; by_cases hc : c = 0
 · exact .inl hc
 · refine .inr fun b off hA hlt => hg.block b hlt fun h0 => ?_
   rcases hne with rfl | hne
   · cases h0
   · exact hne (by rw [← h0, qa8, if_neg hc, hA]; rfl)
theorem qw7 (x : qa3) : x.val = .agg #[.string x.key, .int .u64 (x.id : Int), .int .u64 (x.ver : Int), .int .i64 x.line, .int .i64 x.cls] := rfl
theorem qic {w w' : World} {r it : Nat} (h1 : w'.heap[r]? = w.heap[r]?) (h2 : w'.heap[it]? = w.heap[it]?) : w'.rangeLeft r it = w.rangeLeft r it := by
 unfold World.rangeLeft; rw [h1, h2]
def catB (B : Nat → List qa3) : Nat → List qa3
 | 0 => []
 | n + 1 => catB B n ++ B n
theorem qzj (B : Nat → List qa3) {i n : Nat} (h : i ≤ n) : (catB B i).length ≤ (catB B n).length := by
 induction n with
 | zero =>
  obtain rfl : i = 0 := by omega
  exact Nat.le_refl _
 | succ n ih =>
  rcases (by omega : i = n + 1 ∨ i ≤ n) with rfl | h
  · exact Nat.le_refl _
  · rw [catB, List.length_append]
    have := ih h; omega
def qA4 (B : Nat → List qa3) (l : List qa3) : Prop := l.Perm (catB B 8) ∧ l.Pairwise fun x y => kl y.key x.key = false
def qku (B : Nat → List qa3) (w : World) (e : Ending) (w' : World) : Prop := ∃ A c l, e = .returned (.slice A l.length c) ∧ Own qa3.enc 85 5 w' w.heap.size A c l ∧ Below w.heap.size w w' ∧ qA4 B l
theorem qyl (mb : Nat → Nat) {i : Nat} (hi : i < 8) (W : World) : (Instr.index 196 (.agg #[.map (some (mb 0)), .map (some (mb 1)), .map (some (mb 2)), .map (some (mb 3)), .map (some (mb 4)), .map (some (mb 5)), .map (some (mb 6)), .map (some (mb 7))]) (.int .i64 (i : Int))).run prog W = .ok (.map (some (mb i))) W := by
 rcases (by omega : i = 0 ∨ i = 1 ∨ i = 2 ∨ i = 3 ∨ i = 4 ∨ i = 5 ∨ i = 6 ∨ i = 7) with rfl | rfl | rfl | rfl | rfl | rfl | rfl | rfl <;> kernel_rfl
section
variable {F : Nat → Prop} {w : World} {tb : Nat} {mb : Nat → Nat} {B : Nat → List qa3}
theorem qio (h : qbk F w tb mb B) (hl : (catB B 8).length ≤ 900000) : Calls prog 60 #[.pointer (some ⟨tb, 0, none⟩)] w (qku B w) := by
 have H := hid h; have HL := hid hl; have t0 := h.cell (i := 0) (by omega); have t1 := h.cell (i := 1) (by omega); have t2 := h.cell (i := 2) (by omega); have t3 := h.cell (i := 3) (by omega); have t4 := h.cell (i := 4) (by omega); have t5 := h.cell (i := 5) (by omega); have t6 := h.cell (i := 6) (by omega); have t7 := h.cell (i := 7) (by omega); clear h hl; go_enter func60, ntmps60; go_wp2_with fail; clear t0 t1 t2 t3 t4 t5 t6 t7; go_loopw [3, 15] (fun v3 v15 wr => ∃ (i : Nat) (A' : Option Addr) (c' : Nat) (S : List qa3), i ≤ 8 ∧ v15 = .int .i64 i ∧ v3 = .slice A' S.length c' ∧ Hid (S.Perm (catB B i)) ∧ Own qa3.enc 85 5 wr w.heap.size A' c' S ∧ Below w.heap.size w wr) (fun _ v15 _ => 8 - (intOf v15).toNat)
 case atStart => exact ⟨0, none, 0, [], by omega, rfl, rfl, hid (List.Perm.refl _), Own.none_, Below.refl _ _⟩
 case round =>
  obtain ⟨i, A', c', S, hi, rfl, rfl, HS, hown, hb⟩ := hrel; have HO := hid hown; have HB := hid hb; have hsz := hb.size; by_cases hlt : i < 8
  · have hlti : (i : Int) < 8 := by omega
    have hid0 := qyl mb hlt wr; have HM := hid ((H.out.below hb).map i hlt); have HSB : Hid (S.length + (B i).length ≤ 900000) := hid (by
     have := qzj B (i := i + 1) (n := 8) (by omega)
     rw [catB, List.length_append] at this
     have h2 := HS.out.length_eq
     have := HL.out
     omega)
    clear hown hb; go_wp2_with ((at_range; refine qi8 rfl (.tmp 18) rfl rfl HM.out ?_; intro wI hit hgI hzI)); go_frame; obtain ⟨wo, hwo⟩ : ∃ x, x = wr := ⟨_, rfl⟩; subst hwo; have HO1 : Hid (Own qa3.enc 85 5 wI w.heap.size A' c' S) := hid (HO.out.grown hgI (fun _ _ _ => by simp)); have HB1 : Hid (Below w.heap.size w wI) := hid (HB.out.grown hgI hsz (fun k hk => by cases hk)); have HGI := hid hgI; have hwz : w.heap.size ≤ wo.heap.size := hsz; have hmo := HM.out.lt; clear hgI; go_loopw [3] (fun v3 wx => ∃ (A2 : Option Addr) (c2 : Nat) (S2 : List qa3) (I : List Nat), v3 = .slice A2 (S2.length) c2 ∧ Hid (S2 = S ++ qld (B i) I) ∧ Own qa3.enc 85 5 wx w.heap.size A2 c2 S2 ∧ Below w.heap.size w wx ∧ qkr wx (mb i) wo.heap.size (B i) I) (fun _ wx => wx.rangeLeft (mb i) wo.heap.size)
    case atStart => exact ⟨A', c', S, [], rfl, hid (by simp [qld]), HO1.out, HB1.out, hit⟩
    case round =>
     obtain ⟨A2, c2, S2, I, rfl, HS2, hown2, hb2, hit2⟩ := hrel; have HO2 := hid hown2; have HB2 := hid hb2; have hs2 := hb2.size; have hlI := hit2.lt; have hrw : some wo.heap.size ≠ qa8 A2 c2 := fun h0 => by
      obtain ⟨es, clock, since, seen, c0, _, _, q3, _⟩ := hit2; exact HO2.out.notObj q3 (fun _ _ h => by cases h) h0
     have hrm : some (mb i) ≠ qa8 A2 c2 := fun h0 => by
      obtain ⟨es, clock, since, seen, c0, q1, _⟩ := hit2; exact HO2.out.notObj q1 (fun _ _ h => by cases h) h0
     have HR := hid (And.intro hrw hrm); have HIL : Hid (S2.length ≤ 900000) := hid (by
      obtain ⟨es, clock, since, seen, c0, _, hm, _, _, _, _, hn, hl, _⟩ := hit2
      have h1 : I.length ≤ (B i).length := by
       have := hn.length_le_of_subset (l₂ := List.range (B i).length) (fun k hk => List.mem_range.2 (hl k hk))
       rwa [List.length_range] at this
      have h2 := HSB.out
      rw [HS2.out, List.length_append, qld, List.length_map]
      omega)
     have HIT0 := hid hit2; clear hown2 hb2 hrw hrm; go_wp2_with (first
      | (at_next; refine qji rfl (.tmp 19) rfl rfl HIT0.out ?_ ?_ <;> (try (intro j x wN hx hcont hlt2 hgN hzN hen; have HX := hid hx; clear hx; rw [qw7 x] at hen ⊢; have HON := hid (HO2.out.grown2 hgN (.inr HR.out.1)); have HGN := hid hgN; have HIT := hid hcont; have HLT := hid hlt2; clear hcont hlt2 hgN)))
      | (at_builtin; refine qdv (l := S2) (m := [x]) (A := A2) (c := c2) (lo := w.heap.size) _ rfl (.tmp 24) (.tmp 26) rfl (by simp [Act.eval]) ((HON.out.alloc _).alloc _) (A2 := some ⟨wN.heap.size + 1, 0, none⟩) 1 (by simp [Act.eval]) (qdu (x := x) (by rw [qa2, if_pos (by simp)]; rfl)) (by have := HIL.out; simp; omega) (by simp; omega) ?_; intro A5 c5 w5 hown5 hgr5 hloc5))
     · intro hperm
       have HNX : Hid (S2.Perm (catB B (i + 1))) := hid (by rw [HS2.out]; exact HS.out.append hperm); clear hperm; go_wp2_with fail; exact ⟨⟨i + 1, A2, c2, S2, by omega, by go_num, rfl, HNX, HO2.out, HB2.out⟩, by simp [intOf]; omega⟩
     · have hsN : wr.heap.size ≤ wN.heap.size := HGN.out.size
       have bN : Below w.heap.size w wN := HB2.out.grown HGN.out hs2 (fun k hk => by cases hk; exact hwz); have b5 : Below w.heap.size w w5 := qck ((HON.out.alloc _).alloc _) hgr5 ((bN.alloc (by omega) _).alloc (by simp; omega) _) (by simp; omega); have hk5 : ∀ k, k < wN.heap.size → some k ≠ qa8 A2 c2 → w5.heap[k]? = wN.heap[k]? := fun k hk hne => (hgr5.block k (by simp; omega) hne).trans ((Below.heap_alloc _ _ _ (by simp; omega)).trans (Below.heap_alloc _ _ _ hk))
       have e1 := hk5 (mb i) (by omega) HR.out.2; have e2 := hk5 wo.heap.size (by omega) HR.out.1; refine ⟨⟨A5, c5, S2 ++ [x], I ++ [j], by simp, hid (by rw [HS2.out, HX.out]; simp [qld]), hown5, b5, HIT.out.same e1 e2⟩, ?_⟩; rw [qic e1 e2]; exact HLT.out
  · obtain rfl : i = 8 := by omega
    have HSP := hid HS.out; have hSl : S.length ≤ 900000 := by rw [HS.out.length_eq]; exact HL.out
    clear hown hb; go_wp2_with fail; refine (qjr S A' c' w.heap.size wr HO.out (by omega)).mono ?_; rintro e w2 ⟨rfl, l', hp, hw, hown, honly⟩; have HO2 := hid hown; have HPW := hid (And.intro hp hw); have HB2 : Hid (Below w.heap.size w w2) := hid (HB.out.trans ⟨honly.os, honly.tape, honly.output, honly.size, fun k hk => honly.block k (by omega) fun h0 => by
     rcases HO.out.lt with h1 | ⟨b, off, hA, hlo, _⟩
     · rw [qa8, if_pos h1] at h0; cases h0
     · rw [qa8] at h0
       split at h0
       · cases h0
       · rw [hA] at h0; simp at h0; omega⟩)
    have hll : l'.length = S.length := hp.length_eq; have HLL := hid hll; clear hp hw hown honly hll; go_wp2_with fail; go_ret; exact ⟨A', c', l', by rw [HLL.out]; rfl, HO2.out, HB2.out, HPW.out.1.trans HSP.out, HPW.out.2⟩
end
end
section
open Go.RowKit
def qkv (M : qa4) (line : Int) : Bool := ((catB M.T 8).any fun x => x.line == line) || ((M.Q.any fun x => x.line == line) || M.bag.any fun e => e.line == line || e.anti == line)
theorem Arr.entry {w : World} {B : Nat} {A : Option Addr} {l : List EntC} (h : Arr EntC.enc 5 w B A l) {i : Nat} (hi : i < l.length) : ∃ b off, A = some ⟨b, off, none⟩ ∧ b < B ∧ w.cell? ⟨b, off + i * 5, none⟩ = some (.int .i64 l[i].line) ∧ w.cell? ⟨b, off + i * 5 + 1, none⟩ = some (.int .i64 l[i].cls) ∧ w.cell? ⟨b, off + i * 5 + 2, none⟩ = some (.int .u64 (l[i].r : Int)) ∧ w.cell? ⟨b, off + i * 5 + 3, none⟩ = some (.int .u64 (l[i].d : Int)) ∧ w.cell? ⟨b, off + i * 5 + 4, none⟩ = some (.int .i64 l[i].anti) := by
 rcases h with h | ⟨b, off, hA, hb, hc⟩
 · subst h; exact absurd hi (Nat.not_lt_zero _)
 · exact ⟨b, off, hA, hb, hc i hi 0 _ rfl, hc i hi 1 _ rfl, hc i hi 2 _ rfl, hc i hi 3 _ rfl, hc i hi 4 _ rfl⟩
theorem qkn {α : Type} {l : List α} {k : Nat} (hk : k < l.length) {p : α → Bool} (h : p l[k] = true) : l.any p = true := List.any_eq_true.2 ⟨l[k], List.getElem_mem hk, h⟩
theorem qu2 {α : Type} {l : List α} {p : α → Bool} (h : ∀ i (hi : i < l.length), p l[i] = false) : l.any p = false := by
 rw [List.any_eq_false]; intro x hx; obtain ⟨i, hi, rfl⟩ := List.getElem_of_mem hx; rw [h i hi]; decide
structure Few (M : qa4) (n : Nat) : Prop where
 t : (catB M.T 8).length ≤ n
 q : M.Q.length ≤ n
 qn : M.qn ≤ n
 o : M.O.length ≤ n
 e : M.E.length ≤ n
 b : M.bag.length ≤ 258
theorem qAu {W W' : World} {a : Nat} {u v : Value} (hb : Below W.heap.size W W') (ha : a < W.heap.size) (h : W.cell? ⟨a, 5, none⟩ = some u ∧ W.cell? ⟨a, 7, none⟩ = some v) : W'.cell? ⟨a, 5, none⟩ = some u ∧ W'.cell? ⟨a, 7, none⟩ = some v :=
 ⟨(hb.cell (p := ⟨a, 5, none⟩) ha).trans h.1, (hb.cell (p := ⟨a, 7, none⟩) ha).trans h.2⟩
section
variable {g : Own8} {w : World} {a : Nat} {P : qag} {M : qa4}
theorem qgl (h : qa6 g w a P M) (hn : M.qn ≤ 900000) : Calls prog 63 #[.pointer (some ⟨P.lp, 0, none⟩)] w (qdl M.Q w) := by
 obtain ⟨A, c, h1, _, _, h4⟩ := h.line; exact qng w 0 P.lp A c M.Q h1 fun L at' n hf => by have := h4.len hf.box; omega
def qzw (M : qa4) (l : List qa3) : Prop := (∀ x, x ∈ l ↔ x ∈ catB M.T 8 ∨ x ∈ M.Q) ∧ l.length ≤ 100000
theorem qv6 (h : qa6 g w a P M) (line : Int) (hn : Few M 50000) : Calls prog 341 #[.pointer (some ⟨a, 0, none⟩), .int .i64 line] w (quv (qkv M line) w) := by
 have H := hid h; have q5 := h.cells.2.2.2.2.2.1; have q7 := h.cells.2.2.2.2.2.2.2.1; have hla := qa0 h.box.1; have HTA : Hid (∀ W, Below w.heap.size w W → Calls prog 60 #[.pointer (some ⟨P.tb, 0, none⟩)] W (qku M.T W)) := hid fun W hW => qio (h.below hW).tab (by have := hn.t; omega)
 have HLA : Hid (∀ W, Below w.heap.size w W → Calls prog 63 #[.pointer (some ⟨P.lp, 0, none⟩)] W (qdl M.Q W)) := hid fun W hW => qgl (h.below hW) (by have := hn.qn; omega)
 have HK := hid (And.intro q5 q7); have HN := hid hn; have HQN := hid hn.q; clear h hn; obtain ⟨Q, hQ⟩ : ∃ Q, Q = M.Q := ⟨_, rfl⟩; rw [← hQ] at HLA HQN; have HQ := hid hQ; clear hQ; obtain ⟨i0, hi0, hz0, hz1, hz2⟩ := info_parts qct; have HI := hid hi0; have HZ0 := hid hz0; have HZ1 := hid hz1; have HZ2 := hid hz2; clear hi0 hz0 hz1 hz2; go_enter func341, ntmps341; go_upto_region 1 with fail; go_cut [19, 20, 21] (fun v19 v20 v21 wx => ∃ A c l, v19 = .slice A l.length c ∧ v20 = .int .i64 (l.length : Int) ∧ v21 = .int .i64 0 ∧ Own qa3.enc 85 5 wx w.heap.size A c l ∧ qzw M l ∧ Below w.heap.size w wx)
 case first =>
  go_region_held3 (fun W => W.cell? ⟨a, 5, none⟩ = some (.pointer (some ⟨P.tb, 0, none⟩)) ∧ W.cell? ⟨a, 7, none⟩ = some (.pointer (some ⟨P.lp, 0, none⟩))) (first | (with_reducible refine qAu (W := w) ?_ hla HK.out; (repeat (first | with_reducible exact Below.refl _ _ | with_reducible assumption | with_reducible refine Below.drew ?_ | with_reducible refine qa1 ?_ _)); done) | go_keep) (first | (go_at_call 60; refine (HTA.out _ ?_).mono ?_; exact (by with_reducible repeat (first | exact Below.refl _ _ | assumption | refine Below.drew ?_ | refine qa1 ?_ _ | refine Below.alloc ?_ (by first | omega | simp <;> omega) _ | refine Below.setCell ?_ (by first | omega | simp <;> omega) _)); rintro e w3 ⟨A1, c1, l1, rfl, hown1, hb1, hall⟩; have HALL := hid hall; clear hall; have ST3 : Below w.heap.size w w3 := (by refine Below.trans ?_ (hb1.mono ?_); exact (by with_reducible repeat (first | exact Below.refl _ _ | assumption | refine Below.drew ?_ | refine qa1 ?_ _ | refine Below.alloc ?_ (by first | omega | simp <;> omega) _ | refine Below.setCell ?_ (by first | omega | simp <;> omega) _)); (first | exact Nat.le_refl _ | (simp; done) | (simp; omega) | omega)); have z3 := ST3.size; have HO1 : Hid (Own qa3.enc 85 5 w3 w.heap.size A1 c1 l1) := hid (hown1.lower (lo' := w.heap.size) (by first | exact Nat.le_refl _ | (simp; done) | (simp; omega) | omega)); have HROW := hid (qe4 HO1.out); (try (have HO2B : Hid (Own qa3.enc 85 5 w3 w.heap.size A2 c2 Q) := hid (HO2.out.below (by refine Below.trans ?_ (hb1.mono ?_); exact (by with_reducible repeat (first | exact Below.refl _ _ | assumption | refine Below.drew ?_ | refine qa1 ?_ _ | refine Below.alloc ?_ (by first | omega | simp <;> omega) _ | refine Below.setCell ?_ (by first | omega | simp <;> omega) _)); (first | exact Nat.le_refl _ | (simp; done) | (simp; omega) | omega))))); clear hown1 hb1) | (go_at_call 63; refine (HLA.out _ ?_).mono ?_; exact (by with_reducible repeat (first | exact Below.refl _ _ | assumption | refine Below.drew ?_ | refine qa1 ?_ _ | refine Below.alloc ?_ (by first | omega | simp <;> omega) _ | refine Below.setCell ?_ (by first | omega | simp <;> omega) _)); rintro e w5 ⟨A2, c2, rfl, hown2, hb2⟩; have ST5 : Below w.heap.size w w5 := (by refine Below.trans ?_ (hb2.mono ?_); exact (by with_reducible repeat (first | exact Below.refl _ _ | assumption | refine Below.drew ?_ | refine qa1 ?_ _ | refine Below.alloc ?_ (by first | omega | simp <;> omega) _ | refine Below.setCell ?_ (by first | omega | simp <;> omega) _)); (first | exact Nat.le_refl _ | (simp; done) | (simp; omega) | omega)); have z5 := ST5.size; have HO2 : Hid (Own qa3.enc 85 5 w5 w.heap.size A2 c2 Q) := hid (hown2.lower (lo' := w.heap.size) (by first | exact Nat.le_refl _ | (simp; done) | (simp; omega) | omega)); (try (have HO1B : Hid (Own qa3.enc 85 5 w5 w.heap.size A1 c1 l1) := hid (HO1.out.below (by refine Below.trans ?_ (hb2.mono ?_); exact (by with_reducible repeat (first | exact Below.refl _ _ | assumption | refine Below.drew ?_ | refine qa1 ?_ _ | refine Below.alloc ?_ (by first | omega | simp <;> omega) _ | refine Below.setCell ?_ (by first | omega | simp <;> omega) _)); (first | exact Nat.le_refl _ | (simp; done) | (simp; omega) | omega))))); clear hown2 hb2) | (refine qbe (l := l1) (m := Q) (A := A1) (c := c1) (lo := w.heap.size) _ (by rfl) (.tmp 13) (.tmp 18) 141 (by rfl) i0 _ 48 underlying141 HI.out HZ0.out HZ1.out HZ2.out rfl (by decide) qa3.enc_len qa3.enc_one (by first | rfl | simp [Act.eval]) (by first | with_reducible exact HO1B.out | with_reducible exact HO1B.out.drew | with_reducible exact HO1.out | with_reducible exact HO1.out.drew) c2 (by first | rfl | simp [Act.eval]) (by first | with_reducible exact HO2B.out.arr qa3.enc_len | with_reducible exact (HO2B.out.drew).arr qa3.enc_len | with_reducible exact HO2.out.arr qa3.enc_len | with_reducible exact (HO2.out.drew).arr qa3.enc_len) (by have := HQN.out; have := HALL.out.1.length_eq; have := HN.out.t; unfold maxLen; omega) (by have := HQN.out; have := HALL.out.1.length_eq; have := HN.out.t; omega) (show Below w.heap.size w _ from (by with_reducible repeat (first | exact Below.refl _ _ | assumption | refine Below.drew ?_ | refine qa1 ?_ _ | refine Below.alloc ?_ (by first | omega | simp <;> omega) _ | refine Below.setCell ?_ (by first | omega | simp <;> omega) _))).size ?_; intro A7 c7 w7 hown7 hgr7 hloc7; have ST7 : Below w.heap.size w w7 := (by refine Below.grown ?_ hgr7 ?_ HROW.out; exact (by with_reducible repeat (first | exact Below.refl _ _ | assumption | refine Below.drew ?_ | refine qa1 ?_ _ | refine Below.alloc ?_ (by first | omega | simp <;> omega) _ | refine Below.setCell ?_ (by first | omega | simp <;> omega) _)); exact (show Below w.heap.size w _ from (by with_reducible repeat (first | exact Below.refl _ _ | assumption | refine Below.drew ?_ | refine qa1 ?_ _ | refine Below.alloc ?_ (by first | omega | simp <;> omega) _ | refine Below.setCell ?_ (by first | omega | simp <;> omega) _))).size))); all_goals
   have hll := HALL.out.1.length_eq; have hln : l1.length + Q.length ≤ 100000 := by have := HQN.out; have := HN.out.t; omega
   go_wp2_with fail; go_meet; refine ⟨A7, c7, l1 ++ Q, by rw [List.length_append], by rw [List.length_append]; simp, rfl, ?_, ⟨fun x => by rw [List.mem_append, HALL.out.1.mem_iff, ← HQ.out], by rw [List.length_append]; exact hln⟩, ?_⟩
   · first | with_reducible exact hown7 | with_reducible exact hown7.drew
   · exact (by with_reducible repeat (first | exact Below.refl _ _ | assumption | refine Below.drew ?_ | refine qa1 ?_ _ | refine Below.alloc ?_ (by first | omega | simp <;> omega) _ | refine Below.setCell ?_ (by first | omega | simp <;> omega) _))
 obtain ⟨A, c, l, rfl, rfl, rfl, hown, hlk, hb⟩ := hcut; obtain ⟨w1, hw1⟩ : ∃ x, x = wc := ⟨_, rfl⟩; subst hw1; have HO := hid hown; have HL := hid hlk; have HB1 := hid hb; have hm := hown.max; have hcl := hown.len; have hll := hlk.2; have HHU : Hid (qkv M line = (l.any (fun x => x.line == line) || M.bag.any fun e => e.line == line || e.anti == line)) := hid (by
  rw [qkv, ← Bool.or_assoc]
  congr 1
  rw [← List.any_append, Bool.eq_iff_iff, List.any_eq_true, List.any_eq_true]
  constructor
  · rintro ⟨x, hx, hy⟩; exact ⟨x, (hlk.1 x).2 (List.mem_append.1 hx), hy⟩
  · rintro ⟨x, hx, hy⟩; exact ⟨x, List.mem_append.2 ((hlk.1 x).1 hx), hy⟩)
 clear hown hlk hb q5 q7 HK HTA HLA HQ HQN; go_wp2_with fail; go_loopw [21] (fun v21 wr => ∃ k : Nat, k ≤ l.length ∧ v21 = .int .i64 k ∧ (∀ i (hi : i < l.length), i < k → (l[i].line == line) = false) ∧ Below w1.heap.size w1 wr) (fun v21 _ => l.length - (intOf v21).toNat)
 case atStart => exact ⟨0, Nat.zero_le _, rfl, fun i _ hi => absurd hi (Nat.not_lt_zero i), Below.refl _ _⟩
 case round =>
  obtain ⟨k, hkl, rfl, hno, hbr⟩ := hrel; have HNO := hid hno; have HBR := hid hbr; clear hno; by_cases hlt : k < l.length
  · obtain ⟨b, off, rfl, hB, k0, k1, k2, k3, k4⟩ := ((HO.out.below hbr).arr qa3.enc_len).link hlt
    have i1 : (0 : Int) ≤ (k : Int) := by omega
    have i2 : (k : Int) < (l.length : Int) := by omega
    clear hbr; cases hc : (l[k].line == line) with
    | true =>
     have HC := hid hc; go_wp2_with fail; go_ret; exact ⟨by rw [HHU.out, qkn hlt HC.out]; rfl, (HB1.out.trans (HBR.out.mono HB1.out.size)).alloc (by have := HB1.out.size; have := HBR.out.size; omega) _⟩
    | false =>
     have HC := hid hc; go_wp2_with fail; exact ⟨⟨k + 1, by omega, by go_num, fun i hi h2 => (by
      by_cases hik : i = k
      · subst hik; exact HC.out
      · exact HNO.out i hi (by omega)), HBR.out.alloc HBR.out.size _⟩, by simp [intOf]; omega⟩
  · obtain rfl : k = l.length := by omega
    have HB2 := hid (HB1.out.trans (HBR.out.mono HB1.out.size)); have H2 := H.out.below HB2.out; have q4 := H2.cells.2.2.2.2.1; have hla2 := qa0 H2.box.1; have HH2 : Hid (qkv M line = M.bag.any fun e => e.line == line || e.anti == line) := hid (by rw [HHU.out, qu2 (fun i hi => HNO.out i hi hi), Bool.false_or]); obtain ⟨Ab, cb, hbag, _, _⟩ := H2.bag; have TB := hid (qr5 wr 0 P.bp Ab cb M.bag hbag (by have := HN.out.b; omega)); have HBL := hid HN.out.b; obtain ⟨E, hE⟩ : ∃ E, E = M.bag := ⟨_, rfl⟩; rw [← hE] at HH2 TB HBL; clear hbag hE H2 HNO HBR hbr HO HL hm hcl hll hkl HHU; go_wp2_with fail; refine TB.out.mono ?_; rintro e w3 ⟨Ae, ce, rfl, hown, hb3⟩; have HO := hid hown; have HB3 := hid (HB2.out.trans (hb3.mono HB2.out.size)); have hm := hown.max; have hcl := hown.len; have hel := HBL.out; clear hown hb3 q4 hla2 TB; go_wp2_with fail; go_loopw [36] (fun v36 wr => ∃ k : Nat, k ≤ E.length ∧ v36 = .int .i64 k ∧ (∀ i (hi : i < E.length), i < k → (E[i].line == line || E[i].anti == line) = false) ∧ Below w3.heap.size w3 wr) (fun v36 _ => E.length - (intOf v36).toNat)
    case atStart => exact ⟨0, Nat.zero_le _, rfl, fun i _ hi => absurd hi (Nat.not_lt_zero i), Below.refl _ _⟩
    case round =>
     rename_i wq; obtain ⟨k, hkl, rfl, hno, hbr⟩ := hrel; have HNO := hid hno; have HBR := hid hbr; clear hno; by_cases hlt : k < E.length
     · obtain ⟨b, off, rfl, hB, k0, k1, k2, k3, k4⟩ := ((HO.out.below hbr).arr EntC.enc_len).entry hlt
       have i1 : (0 : Int) ≤ (k : Int) := by omega
       have i2 : (k : Int) < (E.length : Int) := by omega
       clear hbr; cases hc : (E[k].line == line) with
       | true =>
        have HC := hid hc; go_wp2_with fail; go_ret; exact ⟨by rw [HH2.out, qkn hlt (by rw [HC.out, Bool.true_or])]; rfl, (HB3.out.trans (HBR.out.mono HB3.out.size)).alloc (by have := HB3.out.size; have := HBR.out.size; omega) _⟩
       | false =>
        cases hc2 : (E[k].anti == line) with
        | true =>
         have HC := hid hc; have HC2 := hid hc2; go_wp2_with fail; go_ret; exact ⟨by rw [HH2.out, qkn hlt (by rw [HC2.out, Bool.or_true])]; rfl, (HB3.out.trans (HBR.out.mono HB3.out.size)).alloc (by have := HB3.out.size; have := HBR.out.size; omega) _⟩
        | false =>
         have HC := hid hc; have HC2 := hid hc2; go_wp2_with fail; exact ⟨⟨k + 1, by omega, by go_num, fun i hi h2 => (by
          by_cases hik : i = k
          · subst hik; rw [HC.out, HC2.out]; rfl
          · exact HNO.out i hi (by omega)), HBR.out.alloc HBR.out.size _⟩, by simp [intOf]; omega⟩
     · obtain rfl : k = E.length := by omega
       clear hbr; go_wp2_with fail; go_ret; exact ⟨by rw [HH2.out, qu2 (fun i hi => HNO.out i hi hi)]; rfl, HB3.out.trans (HBR.out.mono HB3.out.size)⟩
end
end
section
open Go.RowKit Go.Maps Go.Sort Go.Shelf
theorem qxz (m : Nat) : AnyZ.SortsIn prog qh8 Fence.wide m :=
 ⟨fun blk off cap ss W hH hblk hsz => callsIn_wide.2 (AnyM.slices_Sort_string qA6 blk off cap ss W hH hblk hsz),
  fun p cap W => callsIn_wide.2 (AnyM.slices_Sort_string_none qA6 p cap W)⟩
theorem qss (mb : Option Nat) (W : World) : CallsIn Fence.wide 5 prog 298 #[.map mb] W fun e w' => e = .returned (.func (.func 335) #[] #[.pointer (some ⟨W.heap.size, 0, none⟩)]) ∧ w' = W.alloc (.cells #[.map mb] 195) :=
 AnyZ.keys_in qz3 Fence.wide 5 trivial rfl mb W
theorem qmz {H : Type} (b nn : Nat) (D0 : DataW H) (R : Value → Option (DataW H × List MemPlace)) (w : World) (hown : w.ownsMap prog 9 R b nn D0) (hmax : Maps.size D0 ≤ maxLen) (hbytes : Maps.size D0 * 16 ≤ 140737488355328) :
 CallsIn Fence.wide 5 prog 297 #[.func (.func 335) #[] #[.pointer (some ⟨w.heap.size, 0, none⟩)]] (w.alloc (.cells #[.map (some b)] 195)) fun e w' => ∃ (v : Value) (ss : List (List UInt8)), e = .returned v ∧ ss.Perm (strKeys D0) ∧
  w'.ownsRow (w.alloc (.cells #[.map (some b)] 195)).heap.size 9 1 v ss.length ((ss.mergeSort (fun x y => decide (x ≤ y))).map encStr) ∧ (v = .slice none 0 0 ↔ ss = []) ∧ Below (w.alloc (.cells #[.map (some b)] 195)).heap.size (w.alloc (.cells #[.map (some b)] 195)) w' := by
 have hbl := hown.lt; have hseq : SeqGives Fence.wide 2 prog 335 #[.pointer (some ⟨w.heap.size, 0, none⟩)] encStr (fun ss => ss.Perm (strKeys D0)) (Maps.size D0) (w.alloc (.cells #[.map (some b)] 195)) :=
  AnyZ.keys_gives (ρ := qho) { qz3 with } Fence.wide _ trivial rfl (by omega) w.heap.size b nn D0 _ (by simp) (by simp) (by
   obtain ⟨es, clock, hb, Ft, hs, hD⟩ := hown
   exact ⟨es, clock, (Below.heap_alloc _ _ b hbl).trans hb, Ft, hs, hD⟩)
 exact AnyZ.sorted_in qrv Fence.wide 5 trivial trivial trivial trivial rfl (by omega) (qxz _) (enters_of func334 (by kernel_rfl) rfl) 335 #[.pointer (some ⟨w.heap.size, 0, none⟩)] trivial (enters_of func335 (by kernel_rfl) rfl) _ _ hmax hbytes _ hseq
end
section
open Go.RowKit
def qft : List Value := [.func (.func 181) #[] #[], .func (.func 182) #[] #[], .func (.func 183) #[] #[], .func (.func 184) #[] #[], .func (.func 185) #[] #[], .func (.func 186) #[] #[], .func (.func 187) #[] #[]]
theorem qfs : (prog.info? 283).map (·.size) = some 7 := by kernel_rfl
theorem qla : ∀ v ∈ qft, v.oneCell' = true := by
 intro v hv; simp only [qft, List.mem_cons, List.not_mem_nil, or_false] at hv; rcases hv with rfl | rfl | rfl | rfl | rfl | rfl | rfl <;> rfl
theorem ql8 (w : World) : Calls prog 140 #[] w fun e w' => e = .returned (.agg qft.toArray) ∧ Below w.heap.size w w' := by
 go_enter func140, ntmps140; go_upto_region 1 with fail; generalize hw1 : World.alloc _ _ = w1; obtain ⟨cur, R1, hcur⟩ : ∃ cur, w1.heap[w.heap.size]? = some (.cells cur 283 (0, 0)) ∧ cur.size = 7 := ⟨_, by rw [← hw1]; exact (qa2 _ _ _).trans (if_pos rfl), rfl⟩; have HB1 : Hid (Below w.heap.size w w1) := hid (by rw [← hw1]; exact (Below.refl _ _).alloc (Nat.le_refl _) _); have TH := hid (qai R1 hcur); have hl1 := qa0 R1; have HAL := hid (all_oneCell_toArray qla); obtain ⟨w2, hw2⟩ : ∃ w2, w2 = w1.setCells w.heap.size 0 qft.toArray.toList := ⟨_, rfl⟩; have HW2 := hid hw2; have HRG : Hid (w2.rangeAt w.heap.size 0 qft) := hid (by rw [hw2]; exact World.rangeAt_setCells_same w1 w.heap.size 0 qft TH.out); have HB2 : Hid (Below w.heap.size w w2) := hid (by rw [hw2]; exact qae (Nat.le_refl _) _ _ _ HB1.out); clear hw1 hw2 R1 hcur; go_wp2_with (refine wpList_store_mid rfl 283 (.tmp 0) (.tmp 1) rfl w.heap.size 0 qft.toArray (by first | rfl | simp [Act.eval]) (by first | rfl | simp [Act.eval, qft]) TH.out qfs HAL.out ?_; rw [← HW2.out]); refine bodyPost_ret (v := .agg qft.toArray) ?_ rfl ⟨rfl, HB2.out⟩; exact qah results140 _ _ w.heap.size qft _ rfl HRG.out underlying283 rfl qfs
end
end Go.Proofs.YtecikkjbnkhhkaaGreat
