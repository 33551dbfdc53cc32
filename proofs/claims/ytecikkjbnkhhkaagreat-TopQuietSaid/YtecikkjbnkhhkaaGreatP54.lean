/- A part of the walk. -/
import Derived.Test.YtecikkjbnkhhkaaGreatP52
import Derived.Test.YtecikkjbnkhhkaaGreatP53
namespace Go.Proofs.YtecikkjbnkhhkaaGreat
open _root_.Go.Proofs.Tryz
set_option maxHeartbeats 8000000
set_option maxRecDepth 100000
section
open Go.RowKit
def qA0 (l : List UInt8) (w : World) (e : Ending) (w' : World) : Prop := ∃ A c, e = .returned (.slice A l.length c) ∧ Own byE 5 1 w' w.heap.size A c l ∧ Below w.heap.size w w'
section
variable {g : Own8} {w : World} {a : Nat} {P : qag} {M : qa4}
theorem qra (h : qa6 g w a P M) (n : Nat) (hn : n < M.D.length) : Calls prog 98 #[.pointer (some ⟨a, 0, none⟩), .int .i64 (n : Int), .int .i64 0] w (qA0 M.D[n].now w) := by
 have hlen : M.D.length ≤ 258 := h.dev.2.1.len.2; have hw1 : IntKind.i64.wrap ((n : Int) + 0) = (n : Int) := Go.IntWalk.i64_in _ (by omega); have TL := hid (fun W (hW : Below w.heap.size w W) => qow W 0 P.dp P.dc M.D (h.below hW).dev.2.1 n hn); have TD := hid (fun W (hW : Below w.heap.size w W) => qek (h.below hW)); have TS := hid (fun W => qaw 0 W); have e1 : qa9 0 = 1 := rfl; simp only [e1] at TS; have hln := M.D[n].hn; generalize M.D[n].now = now at *; have HLN := hid hln; have hn258 : (n : Int) ≤ 1000 := by omega
 clear h hlen hn hln e1; go_enter func98, ntmps98; go_wp2_with fail; refine (TS.out w).mono ?_; rintro e w1 ⟨rfl, he⟩; rw [he]; clear he TS; go_wp2_with fail; go_loopw [7, 13] (fun v7 v13 wr => ∃ A c l, v7 = .slice A l.length c ∧ Own byE 5 1 wr w.heap.size A c l ∧ Below w.heap.size w wr ∧ ((v13 = .int .i64 0 ∧ l = []) ∨ (v13 = .int .i64 1 ∧ l = now))) (fun _ v13 _ => 1 - (intOf v13).toNat)
 case atStart => exact ⟨none, 0, [], rfl, Own.zero, Below.refl _ _, .inl ⟨rfl, rfl⟩⟩
 case round =>
  obtain ⟨A, c, l, rfl, hown, hb, (⟨rfl, rfl⟩ | ⟨rfl, rfl⟩)⟩ := hrel
  · have HO := hid hown
    have HB := hid hb; clear hown hb; have hw1 : IntKind.i64.wrap ((n : Int) + 0) = (n : Int) := hw1; go_wp2_with fail; refine (TD.out wr HB.out).mono ?_; rintro e w2 ⟨rfl, he⟩; rw [he]; clear he; go_wp2_with fail; refine (TL.out wr HB.out).mono ?_; rintro e w3 ⟨A2, c2, rfl, hown2, hb2⟩; have HO2 := hid hown2; have HO3 := hid (HO.out.below hb2); have HB3 := hid (HB.out.trans (hb2.mono HB.out.size)); clear hown2 hb2; go_wp2_with (at_builtin; refine qdw (l := []) (m := now) (A := A) (c := c) (lo := w.heap.size) _ rfl (.tmp 25) (.tmp 26) rfl (by simp [Act.eval]) HO3.out (A2 := A2) c2 (by rw [HLN.out]; simp [Act.eval]) (HO2.out.arr qbn) (by rw [HLN.out]; simp) HB3.out.size ?_; intro A4 c4 w4 hown4 hgr4 hloc4); refine ⟨⟨A4, c4, now, ?_, hown4, qde HO3.out hgr4 HB3.out HB3.out.size, .inr ⟨rfl, rfl⟩⟩, by decide⟩; simp
  · have HO := hid hown
    have HB := hid hb; clear hown hb; go_wp2_with fail; go_ret; exact ⟨A, c, rfl, HO.out, HB.out⟩
end
end
section
open Go.RowKit
theorem qBm : decB (encB blkA) = some blkA := by decide +kernel
section
variable {g : Own8} {w : World} {a : Nat} {P : qag} {M : qa4}
def qye (w : World) (e : Ending) (w' : World) : Prop := e = .returned (.tuple #[.string ⟨#[49]⟩, .bool true]) ∧ Below w.heap.size w w'
theorem qxf (h : qa6 g w a P M) (h2 : 2 < M.D.length) (hnow : M.D[2].now = encB blkA) : Calls prog 61 #[.pointer (some ⟨a, 0, none⟩), .agg #[.string ⟨#[97]⟩, .int .u64 1, .int .u64 1, .int .i64 2, .int .i64 0], .int .i64 1] w (qye w) := by
 have TB := hid (fun W (hW : Below w.heap.size w W) => qra (h.below hW) 2 h2); simp only [hnow] at TB; have h64 : (encB blkA).length = 64 := by decide +kernel
 have hdec := hid qBm; have hk : decV (some blkA) = .tuple #[.agg #[.int .i64 0, .int .i64 1, .int .u64 1, .int .u64 1, .int .u64 1, .string ⟨#[97]⟩, .string ⟨#[49]⟩], .bool true] := rfl; generalize encB blkA = l at *; generalize blkA = bb at *; have HK := hid hk; have H64 := hid h64; clear h h2 hnow hk h64; go_enter func61, ntmps61; go_upto_region 1 with fail; generalize hw1 : World.alloc _ _ = w1; have R0 : w1.heap[w.heap.size]? = some (.cells #[.string ⟨#[97]⟩, .int .u64 1, .int .u64 1, .int .i64 2, .int .i64 0] 85 (0, 0)) := by rw [← hw1]; exact qaq _ _
 have b1 : Below w.heap.size w w1 := by rw [← hw1]; exact (Below.refl _ _).alloc (Nat.le_refl _) _
 have c0 : w1.cell? ⟨w.heap.size, 0, none⟩ = some (.string ⟨#[97]⟩) := cell_of_row w1 _ 0 _ _ _ R0; have c1 : w1.cell? ⟨w.heap.size, 1, none⟩ = some (.int .u64 1) := cell_of_row w1 _ 1 _ _ _ R0; have c2 : w1.cell? ⟨w.heap.size, 2, none⟩ = some (.int .u64 1) := cell_of_row w1 _ 2 _ _ _ R0; have c3 : w1.cell? ⟨w.heap.size, 3, none⟩ = some (.int .i64 2) := cell_of_row w1 _ 3 _ _ _ R0; have c4 : w1.cell? ⟨w.heap.size, 4, none⟩ = some (.int .i64 0) := cell_of_row w1 _ 4 _ _ _ R0; have hl := qa0 R0; have HB1 := hid b1; clear hw1 b1 R0; go_wp2_with fail; refine (TB.out w1 HB1.out).mono ?_; rintro e w2 ⟨A2, c2', rfl, hown2, hb2⟩; have HO2 := hid hown2; have HB2 := hid hb2; have c0 := (hb2.cell (p := ⟨w.heap.size, 0, none⟩) hl).trans c0; have c1 := (hb2.cell (p := ⟨w.heap.size, 1, none⟩) hl).trans c1; have c2 := (hb2.cell (p := ⟨w.heap.size, 2, none⟩) hl).trans c2; clear hown2 hb2; go_wp2_with fail; have HD := qi0 l A2 c2' w2 (HO2.out.arr qbn) (by rw [H64.out]; decide) HO2.out.len HO2.out.max; rw [hdec.out] at HD; refine HD.mono ?_; rintro e w3 ⟨rfl, hb3⟩; rw [HK.out]; have HB3 := hid hb3; have hl2 : w.heap.size < w2.heap.size := by have := HB2.out.size; omega
 have c0 := (hb3.cell (p := ⟨w.heap.size, 0, none⟩) hl2).trans c0; have c1 := (hb3.cell (p := ⟨w.heap.size, 1, none⟩) hl2).trans c1; have c2 := (hb3.cell (p := ⟨w.heap.size, 2, none⟩) hl2).trans c2; clear hb3 HK TB hdec; go_upto_region 2 with fail; have hl3 : w.heap.size < w3.heap.size := by have := HB3.out.size; omega
 generalize hw4 : World.alloc _ _ = w4; have R4 : w4.heap[w3.heap.size]? = some (.cells #[.int .i64 0, .int .i64 1, .int .u64 1, .int .u64 1, .int .u64 1, .string ⟨#[97]⟩, .string ⟨#[49]⟩] 203 (0, 0)) := by rw [← hw4]; exact qaq _ _
 have b4 : Below w3.heap.size w3 w4 := by rw [← hw4]; exact (Below.refl _ _).alloc (Nat.le_refl _) _
 have c0 := (b4.cell (p := ⟨w.heap.size, 0, none⟩) hl3).trans c0; have c1 := (b4.cell (p := ⟨w.heap.size, 1, none⟩) hl3).trans c1; have c2 := (b4.cell (p := ⟨w.heap.size, 2, none⟩) hl3).trans c2; have k1 : w4.cell? ⟨w3.heap.size, 1, none⟩ = some (.int .i64 1) := cell_of_row w4 _ 1 _ _ _ R4; have k2 : w4.cell? ⟨w3.heap.size, 2, none⟩ = some (.int .u64 1) := cell_of_row w4 _ 2 _ _ _ R4; have k3 : w4.cell? ⟨w3.heap.size, 3, none⟩ = some (.int .u64 1) := cell_of_row w4 _ 3 _ _ _ R4; have k5 : w4.cell? ⟨w3.heap.size, 5, none⟩ = some (.string ⟨#[97]⟩) := cell_of_row w4 _ 5 _ _ _ R4; have k6 : w4.cell? ⟨w3.heap.size, 6, none⟩ = some (.string ⟨#[49]⟩) := cell_of_row w4 _ 6 _ _ _ R4; have hl4 := qa0 R4; have HB4 := hid (HB1.out.trans ((HB2.out.trans ((HB3.out.trans (b4.mono HB3.out.size)).mono HB2.out.size)).mono HB1.out.size)); clear hw4 b4 R4; have h4 : ((⟨#[97]⟩ : ByteArray).toList == (⟨#[97]⟩ : ByteArray).toList) = true := beq_self_eq_true _; go_quiet (fail); go_wp2_with fail; go_ret2; exact ⟨rfl, qa1 HB4.out _⟩
end
end
section
open Go.RowKit
structure PrC where
 key : ByteArray
 val : ByteArray
def PrC.enc (x : PrC) : List Value := [.string x.key, .string x.val]
theorem PrC.enc_len (x : PrC) : x.enc.length = 2 := rfl
theorem PrC.enc_one (x : PrC) : ∀ u ∈ x.enc, u.oneCell' = true := by
 intro u hu; simp only [PrC.enc, List.mem_cons, List.not_mem_nil, or_false] at hu; rcases hu with rfl | rfl <;> rfl
theorem qz9 : (prog.info? 75).map (fun i => (i.zero, i.size, i.bytes)) = some (some (.agg #[.string ByteArray.empty, .string ByteArray.empty]), 2, 32) := by kernel_rfl
theorem qB7 {ops : Array Oper} {rest : List Oper} {o : Oper} {a : Act} {Q : Exit → Act → World → Prop} (w : World) (hgd : o.guard = none) (s x : Operand)
 (ho : o.op = .call { callee := .builtin .append, args := #[s, x], argTypes := #[45, 45] }) {lo : Nat} {A : Option Addr} {c : Nat} {l : List PrC} (hs : a.eval s = .slice A l.length c) (own : Own PrC.enc 75 2 w lo A c l)
 {B : Nat} {A2 : Option Addr} {m : List PrC} (c2 : Nat) (hx : a.eval x = .slice A2 m.length c2) (arr : Arr PrC.enc 2 w B A2 m) (hb : l.length + m.length ≤ 1000000) (hlo : lo ≤ w.heap.size)
 (h : ∀ A' c' w', Own PrC.enc 75 2 w' lo A' c' (l ++ m) → w.grownBy w' (qa8 A c) → (A' = A ∧ c' = c ∨ ∃ g, A' = some ⟨g, 0, none⟩ ∧ w.heap.size ≤ g) → wpList prog ops Q rest (a.put o.dst (.slice A' (l.length + m.length) c')) w') :
 wpList prog ops Q (o :: rest) a w := by
 obtain ⟨i0, hi, hz0, hz1, hz2⟩ := info_parts qz9; exact qar w hgd s x 45 ho i0 _ 32 underlying45 hi hz0 hz1 hz2 rfl (by decide) PrC.enc_len PrC.enc_one hs own c2 hx arr (by unfold maxLen; omega) (by omega) hlo h
theorem qty {w : World} {p : Nat} {x : PrC} {ty : TypeId} (h : w.heap[p]? = some (.cells x.enc.toArray ty (0, 0))) : Arr PrC.enc 2 w w.heap.size (some ⟨p, 0, none⟩) [x] := .inr ⟨p, 0, rfl, qa0 h, fun i hi j v hv => by
 have : i = 0 := by simp at hi; exact hi
 subst this
 rw [show 0 + 0 * 2 + j = j by omega]
 exact (cell_of_row w p j _ _ _ h).trans (by rw [List.getElem?_toArray]; exact hv)⟩
def prA : PrC := ⟨⟨#[97]⟩, ⟨#[49]⟩⟩
def que (w : World) (e : Ending) (w' : World) : Prop := ∃ A c, e = .returned (.agg #[.slice A 1 c, .slice none 0 0]) ∧ Own PrC.enc 75 2 w' w.heap.size A c [prA] ∧ Below w.heap.size w w'
theorem qBo {T : Nat → List qa3} (hT : T = updB (fun _ => []) (bucket ⟨#[97]⟩) [lkA]) {l : List qa3} (h : qA4 T l) : l = [lkA] := by
 have hc : catB T 8 = [lkA] := by
  have hb : bucket ⟨#[97]⟩ < 8 := qb6 _; rw [hT]; generalize bucket ⟨#[97]⟩ = k at *; rcases (by omega : k = 0 ∨ k = 1 ∨ k = 2 ∨ k = 3 ∨ k = 4 ∨ k = 5 ∨ k = 6 ∨ k = 7) with rfl | rfl | rfl | rfl | rfl | rfl | rfl | rfl <;> rfl
 have hp := h.1; rw [hc] at hp; exact List.perm_singleton.1 hp
def ShL (w w1 : World) (A3 : Option Addr) (c3 : Nat) (v16 : Value) (wr : World) : Prop := w1.heap.size ≤ wr.heap.size ∧
 wr.heap[w.heap.size]? = some (.cells #[.slice none 0 0, .slice none 0 0] 48 (0, 0)) ∧ Below w.heap.size w wr ∧
 ∃ A c l, wr.heap[w.heap.size + 1]? = some (.cells #[.slice A l.length c, .slice none 0 0] 48 (0, 0)) ∧ Own PrC.enc 75 2 wr w1.heap.size A c l ∧ ((v16 = .int .i64 0 ∧ l = [] ∧ c = 0 ∧ Own qa3.enc 85 5 wr w1.heap.size A3 c3 [lkA]) ∨ (v16 = .int .i64 1 ∧ l = [prA]))
section
variable {g : Own8} {w : World} {a : Nat} {P : qag} {M : qa4}
theorem qxg (h : qa6 g w a P M) (hd : Don M) (hqn : M.qn ≤ 900000) : Calls prog 37 #[.pointer (some ⟨a, 0, none⟩)] w (que w) := by
 obtain ⟨hT, hQ, h2, hnow⟩ := hd; have TT := hid (fun W (hW : Below w.heap.size w W) => qga (h.below hW)); have TLi := hid (fun W (hW : Below w.heap.size w W) => qme (h.below hW)); have hcat : (catB M.T 8).length ≤ 900000 := by
  have hb : bucket ⟨#[97]⟩ < 8 := qb6 _; rw [hT]; generalize bucket ⟨#[97]⟩ = k at *; rcases (by omega : k = 0 ∨ k = 1 ∨ k = 2 ∨ k = 3 ∨ k = 4 ∨ k = 5 ∨ k = 6 ∨ k = 7) with rfl | rfl | rfl | rfl | rfl | rfl | rfl | rfl <;> decide
 have HTA : Hid (∀ W, Below w.heap.size w W → Calls prog 60 #[.pointer (some ⟨P.tb, 0, none⟩)] W (qku M.T W)) := hid fun W hW => qio (h.below hW).tab hcat
 have HLA : Hid (∀ W, Below w.heap.size w W → Calls prog 63 #[.pointer (some ⟨P.lp, 0, none⟩)] W (qdl M.Q W)) := hid fun W hW => qgl (h.below hW) hqn
 have HV : Hid (∀ W, Below w.heap.size w W → Calls prog 61 #[.pointer (some ⟨a, 0, none⟩), .agg #[.string ⟨#[97]⟩, .int .u64 1, .int .u64 1, .int .i64 2, .int .i64 0], .int .i64 1] W (qye W)) := hid fun W hW => qxf (h.below hW) h2 hnow
 rw [hQ] at HLA; have HAL := hid (fun l (hl : qA4 M.T l) => qBo hT hl); clear h hT hQ h2 hnow hcat; go_enter func37, ntmps37; go_upto_region 2 with fail; generalize hw1 : World.alloc (World.alloc _ _) _ = w1; have R2 : w1.heap[w.heap.size]? = some (.cells #[.slice none 0 0, .slice none 0 0] 48 (0, 0)) := by rw [← hw1]; exact ((qa2 _ _ _).trans (if_neg (by rw [World.size_alloc]; omega))).trans (qaq _ _)
 have R3 : w1.heap[w.heap.size + 1]? = some (.cells #[.slice none 0 0, .slice none 0 0] 48 (0, 0)) := by rw [← hw1]; exact (by have := qaq (w.alloc (.cells #[.slice none 0 0, .slice none 0 0] 48)) (.cells #[.slice none 0 0, .slice none 0 0] 48); rw [World.size_alloc] at this; exact this)
 have b1 : Below w.heap.size w w1 := by rw [← hw1]; exact ((Below.refl _ _).alloc (Nat.le_refl _) _).alloc (by rw [World.size_alloc]; omega) _
 have HB1 := hid b1; have HR2 := hid R2; have HR3 := hid R3; have hl1 := qa0 R3; clear hw1 b1 R2 R3; go_wp2_with fail; refine (TT.out w1 HB1.out).mono ?_; rintro e w2 ⟨rfl, he⟩; rw [he]; clear he TT; go_wp2_with fail; refine (HTA.out w1 HB1.out).mono ?_; rintro e w3 ⟨A3, c3, l3, rfl, hown3, hb3, hall⟩; have hl3 := HAL.out l3 hall; subst hl3; have HO3 := hid hown3; have HB3 := hid hb3; have HR2 := hid ((hb3.block _ (by omega)).trans HR2.out); have HR3 := hid ((hb3.block _ (by omega)).trans HR3.out); have hz3 := hb3.size; have HA3 := hid (HB1.out.trans (hb3.mono HB1.out.size)); clear hown3 hb3 HTA HAL hall; go_wp2_with fail; go_loopw [16] (fun v16 wr => ShL w w1 A3 c3 v16 wr) (fun v16 _ => 1 - (intOf v16).toNat)
 case atStart => exact ⟨hz3, HR2.out, HA3.out, none, 0, [], HR3.out, Own.zero, .inl ⟨rfl, rfl, rfl, HO3.out⟩⟩
 case round =>
  obtain ⟨hzr, r2, hbr, A, c, l, r3, hpr, (⟨rfl, rfl, rfl, ho⟩ | ⟨rfl, rfl⟩)⟩ := hrel
  · obtain ⟨b, off, rfl, hB, k0, k1, k2, k3, k4⟩ := (ho.arr qa3.enc_len).link (i := 0) (by decide)
    have k0 : wr.cell? ⟨b, off, none⟩ = some (.string ⟨#[97]⟩) := k0; have k1 : wr.cell? ⟨b, off + 1, none⟩ = some (.int .u64 1) := k1; have k2 : wr.cell? ⟨b, off + 2, none⟩ = some (.int .u64 1) := k2; have k3 : wr.cell? ⟨b, off + 3, none⟩ = some (.int .i64 2) := k3; have k4 : wr.cell? ⟨b, off + 4, none⟩ = some (.int .i64 0) := k4; have HBR := hid hbr; have HPR := hid hpr; have HR2 := hid r2; have HR3 := hid r3; clear hbr ho hpr r2 r3; go_upto_region 5 with fail; generalize hw4 : World.alloc _ _ = w4; have R4 : w4.heap[wr.heap.size]? = some (.cells #[.string ⟨#[97]⟩, .int .u64 1, .int .u64 1, .int .i64 2, .int .i64 0] 85 (0, 0)) := by rw [← hw4]; exact qaq _ _
    have b4 : Below wr.heap.size wr w4 := by rw [← hw4]; exact (Below.refl _ _).alloc (Nat.le_refl _) _
    have y0 : w4.cell? ⟨wr.heap.size, 0, none⟩ = some (.string ⟨#[97]⟩) := cell_of_row w4 _ 0 _ _ _ R4; have y1 : w4.cell? ⟨wr.heap.size, 1, none⟩ = some (.int .u64 1) := cell_of_row w4 _ 1 _ _ _ R4; have y2 : w4.cell? ⟨wr.heap.size, 2, none⟩ = some (.int .u64 1) := cell_of_row w4 _ 2 _ _ _ R4; have y3 : w4.cell? ⟨wr.heap.size, 3, none⟩ = some (.int .i64 2) := cell_of_row w4 _ 3 _ _ _ R4; have y4 : w4.cell? ⟨wr.heap.size, 4, none⟩ = some (.int .i64 0) := cell_of_row w4 _ 4 _ _ _ R4; have hl4 := qa0 R4; have HB4 := hid b4; have hlr := qa0 HR3.out; have HA4 := hid (HBR.out.trans (b4.mono HBR.out.size)); clear hw4 b4 R4 k0 k1 k2 k3 k4; go_wp2_with fail; refine (HV.out w4 HA4.out).mono ?_; rintro e w5 ⟨rfl, hb5⟩; have y0 := (hb5.cell (p := ⟨wr.heap.size, 0, none⟩) hl4).trans y0; have HB5 := hid (HB4.out.trans (hb5.mono HB4.out.size)); have hz5 := HB5.out.size; have R53 := (HB5.out.block _ hlr).trans HR3.out; have q0 : w5.cell? ⟨w.heap.size + 1, 0, none⟩ = some (.slice A ([] : List PrC).length 0) := cell_of_row w5 _ 0 _ _ _ R53; have HR53 := hid R53; have HP5 := hid (HPR.out.below HB5.out); have hl5 : wr.heap.size < w5.heap.size := by have := hb5.size; omega
    have hl53 := qa0 R53; have PrNot : Hid (∀ (A : Option Addr) (c : Nat), Own PrC.enc 75 2 w5 w1.heap.size A c [] → qa8 A c ≠ some (w.heap.size + 1)) := hid fun A c ho e => by have := qe4 ho _ e; omega
    have HB5X := hid ((Below.refl w5.heap.size w5).alloc (Nat.le_refl _) (.cells prA.enc.toArray 75)); clear hb5 y1 y2 y3 y4 hl4 R53; go_wp2_with (at_builtin; go_loud (refine qB7 (l := []) (m := [prA]) (A := A) (c := 0) (lo := w1.heap.size) _ rfl (.tmp 28) (.tmp 33) rfl (by simp [Act.eval]) (HP5.out.alloc _) 1 rfl (qty (qaq _ _)) (by decide) (by simp; omega) ?_; intro A6 c6 w6 hown6 hgr6 hloc6; have R63 := ((hgr6.block _ (by rw [World.size_alloc]; omega) (PrNot.out _ _ HP5.out).symm).trans (HB5X.out.block _ hl53)).trans HR53.out; have q6 := cell_of_row w6 _ 0 _ _ _ R63; have f6 := frozen_of_row w6 _ 0 _ _ R63; have hl6 := qa0 R63)); have hb6 := qde ((HP5.out.alloc (.cells prA.enc.toArray 75)).lower (lo' := w.heap.size) (by omega)) hgr6 ((HBR.out.trans (HB5.out.mono HBR.out.size)).alloc (by have := HBR.out.size; omega) _) (by simp; have := HBR.out.size; omega); have hz6 := hgr6.size; rw [World.size_alloc] at hz6; have r26 := ((hgr6.block w.heap.size (by rw [World.size_alloc]; omega) (fun e => by cases e)).trans (HB5X.out.block _ (by omega))).trans ((HB5.out.block _ (by omega)).trans HR2.out); refine ⟨⟨by rw [World.size_setCell]; omega, (Below.heap_setCell _ _ _ _ (by show w.heap.size ≠ w.heap.size + 1; omega)).trans r26, hb6.setCell (by show w.heap.size ≤ w.heap.size + 1; omega) _, A6, c6, [prA], ?_, ?_, .inr ⟨rfl, rfl⟩⟩, by decide⟩
    · exact heap_setCell_same _ _ 0 _ _ _ R63
    · exact hown6.keep fun b _ _ hlo _ => Below.heap_setCell _ _ _ _ (by show b ≠ w.heap.size + 1; omega)
  · have HBR := hid hbr
    have HPR := hid hpr; have HR2 := hid r2; have HR3 := hid r3; clear hbr hpr r2 r3; go_wp2_with fail; refine (TLi.out wr HBR.out).mono ?_; rintro e w2' ⟨rfl, he⟩; rw [he]; clear he TLi; go_wp2_with fail; refine (HLA.out wr HBR.out).mono ?_; rintro e w7 ⟨A7, c7, rfl, hown7, hb7⟩; have hlr := qa0 HR3.out; have R72 := (hb7.block _ (by omega)).trans HR2.out; have R73 := (hb7.block _ hlr).trans HR3.out; have HP7 := hid (HPR.out.below hb7); have HB7 := hid (HBR.out.trans (hb7.mono HBR.out.size)); clear hown7 hb7 HLA; have HR72 := hid R72; have HR73 := hid R73; have q0 := cell_of_row w7 _ 0 _ _ _ R73; have q1 := cell_of_row w7 _ 1 _ _ _ R73; have z0 := cell_of_row w7 _ 0 _ _ _ R72; have z1 := cell_of_row w7 _ 1 _ _ _ R72; have f2 := fun o => frozen_of_row w7 _ o _ _ R72
    have f20 := f2 0; have f21 := f2 1; have hl73 := qa0 R73; have hl72 := qa0 R72; clear R72 R73 f2; go_wp2_with fail; go_loopw [41] (fun v41 wr' => v41 = .int .i64 0 ∧ wr' = w7) (fun _ _ => 0)
    case atStart => exact ⟨rfl, rfl⟩
    case round =>
     obtain ⟨rfl, hw⟩ := hrel; rw [hw]; clear hw; go_wp2_with fail; generalize hw8 : World.setCell (World.setCell w7 _ _) _ _ = w8; have R8 : w8.heap[w.heap.size]? = some (.cells #[.slice A 1 c, .slice none 0 0] 48 (0, 0)) := by rw [← hw8]; exact heap_setCell_same _ _ 1 _ _ _ (heap_setCell_same _ _ 0 _ _ _ HR72.out)
     have b8 : Below w.heap.size w w8 := by rw [← hw8]; exact (HB7.out.setCell (Nat.le_refl _) _).setCell (Nat.le_refl _) _
     have hp8 : Own PrC.enc 75 2 w8 w1.heap.size A c [prA] := by
      rw [← hw8]; exact (HP7.out.keep fun b _ _ hlo _ => Below.heap_setCell _ _ _ _ (by show b ≠ w.heap.size; omega)).keep fun b _ _ hlo _ => Below.heap_setCell _ _ _ _ (by show b ≠ w.heap.size; omega)
     have c0 := cell_of_row w8 _ 0 _ _ _ R8; have c1 := cell_of_row w8 _ 1 _ _ _ R8; refine bodyPost_ret (v := .agg #[.slice A 1 c, .slice none 0 0]) (by simp [results, results37, go_sem, c0, c1]) rfl ⟨A, c, rfl, hp8.lower (by omega), b8⟩
end
end
section
open Go.RowKit
section
variable {g : Own8} {w : World} {wb a : Nat} {P : qag} {M : qa4} {c : CfgC} {T : List ThrC} {D : Nat → FrD} {steps : Int} {sA : Option Addr} {sc : Nat} {S : List qap}
theorem qv3 (h : WAt g w wb a P M c T D steps sA sc S) (hd : Don M) (hqn : M.qn ≤ 900000) : Calls prog 18 #[.pointer (some ⟨wb, 0, none⟩)] w (que w) := by
 have TA := hid (fun W (hW : Below w.heap.size w W) => qfj (h.below hW)); have TB := hid (fun W (hW : Below w.heap.size w W) => qxg (h.below hW).ar hd hqn); clear h hd hqn; go_enter func18, ntmps18; go_upto_region 1 with fail; generalize hw1 : World.alloc _ _ = w1; have R2 : w1.heap[w.heap.size]? = some (.cells #[.slice none 0 0, .slice none 0 0] 48 (0, 0)) := by rw [← hw1]; exact qaq _ _
 have b1 : Below w.heap.size w w1 := by rw [← hw1]; exact (Below.refl _ _).alloc (Nat.le_refl _) _
 have HB1 := hid b1; have hl1 := qa0 R2; have HR2 := hid R2; clear hw1 b1 R2; go_wp2_with fail; refine (TA.out w1 HB1.out).mono ?_; rintro e w2 ⟨rfl, he⟩; rw [he]; clear he TA; go_wp2_with fail; refine (TB.out w1 HB1.out).mono ?_; rintro e w3 ⟨A, cc, rfl, harr, hb3⟩; have R3 := (hb3.block _ hl1).trans HR2.out; have HR3 := hid R3; have f0 := frozen_of_row w3 _ 0 _ _ R3; have f1 := frozen_of_row w3 _ 1 _ _ R3; have z0 := cell_of_row w3 _ 0 _ _ _ R3; have z1 := cell_of_row w3 _ 1 _ _ _ R3; have hl3 := qa0 R3; have HB3 := hid (HB1.out.trans (hb3.mono HB1.out.size)); have HA := hid harr; clear R3 hb3 harr; go_wp2_with fail; generalize hw8 : World.setCell (World.setCell w3 _ _) _ _ = w8; have R8 : w8.heap[w.heap.size]? = some (.cells #[.slice A 1 cc, .slice none 0 0] 48 (0, 0)) := by rw [← hw8]; exact heap_setCell_same _ _ 1 _ _ _ (heap_setCell_same _ _ 0 _ _ _ HR3.out)
 have b8 : Below w.heap.size w w8 := by rw [← hw8]; exact (HB3.out.setCell (Nat.le_refl _) _).setCell (Nat.le_refl _) _
 have hp8 : Own PrC.enc 75 2 w8 w1.heap.size A cc [prA] := by
  rw [← hw8]; exact (HA.out.keep fun b _ _ hlo _ => Below.heap_setCell _ _ _ _ (by show b ≠ w.heap.size; omega)).keep fun b _ _ hlo _ => Below.heap_setCell _ _ _ _ (by show b ≠ w.heap.size; omega)
 have c0 := cell_of_row w8 _ 0 _ _ _ R8; have c1 := cell_of_row w8 _ 1 _ _ _ R8; refine bodyPost_ret (v := .agg #[.slice A 1 cc, .slice none 0 0]) (by simp [results, results18, go_sem, c0, c1]) rfl ⟨A, cc, rfl, hp8.lower (by omega), b8⟩
theorem WAt.thrRange (h : WAt g w wb a P M c T D steps sA sc S) : w.rangeAt wb 8 (T.flatMap ThrC.enc) := fun j v hv => by
 have hl : (T.flatMap ThrC.enc).length = T.length * 30 := qao ThrC.enc_len T
 have hj := (List.getElem?_eq_some_iff.1 hv).1
 rw [hl] at hj
 obtain ⟨q, r, rfl, hq, hr⟩ : ∃ q r, j = q * 30 + r ∧ q < T.length ∧ r < 30 := ⟨j / 30, j % 30, by omega, by omega, by omega⟩
 rw [qb0 ThrC.enc_len T q hq r hr] at hv
 have := h.bx.thr hq r hr hv
 rw [Nat.add_assoc] at this
 exact this
theorem qrm : (prog.info? 92).map (·.size) = some 120 := by kernel_rfl
theorem qzb (cs : Array Value) {i : Nat} (hi : i < 4) (W : World) : (Instr.index 92 (.agg cs) (.int .i64 (i : Int))).run prog W = .ok (.agg (cs.extract (i * 30) (i * 30 + 30))) W := by
 rcases (by omega : i = 0 ∨ i = 1 ∨ i = 2 ∨ i = 3) with rfl | rfl | rfl | rfl <;> kernel_rfl
theorem qva (hT : T.length = 4) {i : Nat} (hi : i < T.length) (W : World) : (Instr.index 92 (.agg (T.flatMap ThrC.enc).toArray) (.int .i64 (i : Int))).run prog W = .ok (.agg T[i].enc.toArray) W := by
 rw [qzb _ (by omega)]; congr 2; refine Array.ext' (List.ext_getElem? fun j => ?_); have hl : (T.flatMap ThrC.enc).length = T.length * 30 := qao ThrC.enc_len T; rw [Array.toList_extract, List.extract_eq_take_drop, show i * 30 + 30 - i * 30 = 30 by omega, List.getElem?_take]; by_cases hj : j < 30
 · rw [if_pos hj, List.getElem?_drop]
   exact qb0 ThrC.enc_len T i hi j hj
 · rw [if_neg hj]
   exact (List.getElem?_eq_none (by rw [ThrC.enc_len]; omega)).symm
theorem qh3 (w : World) (cur : Array Value) (t : TypeId) {n : Nat} (h : n ≤ cur.size) : (w.alloc (.cells cur t)).there w.heap.size 0 n := by
 have R : (w.alloc (.cells cur t)).heap[w.heap.size]? = some (.cells cur t (0, 0)) := qaq w (.cells cur t); intro j hj; refine ⟨?_, frozen_of_row _ _ _ _ _ R⟩; rw [cell_of_row _ _ _ _ _ _ R, Array.getElem?_eq_getElem (by omega)]; rfl
theorem qjm (h : WAt g w wb a P M c T D steps sA sc S) (hb : ∀ i (hi : i < T.length), T[i].busy = false) : Calls prog 19 #[.pointer (some ⟨wb, 0, none⟩)] w fun e w' => e = .returned (.slice none 0 0) ∧ Below w.heap.size w w' := by
 have HRG := hid h.thrRange; have hT := h.bx.len; have hl := h.bx.lt; have HIX := hid (fun i hi W => qva (T := T) hT (i := i) hi W); have hfl : (T.flatMap ThrC.enc).length = 120 := by rw [qao ThrC.enc_len, hT]
 have HSZ := hid (show (prog.info? 92).map (·.size) = some (T.flatMap ThrC.enc).length by rw [hfl]; exact qrm); have HB := hid hb; clear h hb hfl; go_enter func19, ntmps19; go_wp2_with (refine wpList_load_mid rfl 92 (.tmp 11) rfl wb 8 (by first | rfl | simp [Act.eval]) _ _ HRG.out underlying92 rfl HSZ.out ?_); generalize T.flatMap ThrC.enc = L at *; have hTi : (T.length : Int) = 4 := by omega
 clear HRG HSZ; go_loopw [3, 13] (fun v3 v13 wr => ∃ k : Nat, k ≤ T.length ∧ v3 = .slice none 0 0 ∧ v13 = .int .i64 k ∧ Below w.heap.size w wr) (fun _ v13 _ => T.length - (intOf v13).toNat)
 case atStart => exact ⟨0, Nat.zero_le _, rfl, rfl, Below.refl _ _⟩
 case round =>
  obtain ⟨k, hk, rfl, rfl, hbr⟩ := hrel; have HBR := hid hbr; clear hbr; by_cases hlt : k < T.length
  · have hki : (k : Int) < 4 := by omega
    have hix := HIX.out k hlt; have hbz := HB.out k hlt; have hone := T[k].enc_one; have hlen := T[k].enc_len; obtain ⟨E, hE⟩ : ∃ E, E = T[k].enc := ⟨_, rfl⟩; rw [← hE] at hix hone hlen; have h0 : E[0]? = some (.bool false) := by rw [hE, ← hbz]; rfl
    have hsz : (prog.info? 91).map (·.size) = some E.toArray.size := by rw [List.size_toArray, hlen]; kernel_rfl
    have hall := all_oneCell_toArray hone; have hge : E.toArray.size ≤ 30 := by rw [List.size_toArray, hlen]; exact Nat.le_refl _
    clear hE hbz; have b4 : ∀ cur : Array Value, Below w.heap.size w ((wr.alloc (.cells cur 91)).setCells wr.heap.size 0 E) := fun cur => qae HBR.out.size E 0 _ (HBR.out.alloc HBR.out.size _)
    have k4 : ∀ cur : Array Value, 30 ≤ cur.size → ((wr.alloc (.cells cur 91)).setCells wr.heap.size 0 E).cell? ⟨wr.heap.size, 0, none⟩ = some (.bool false) := fun cur hc => World.rangeAt_setCells_same _ _ 0 E (qh3 _ _ _ (by omega)) 0 _ h0
    have HB4 := hid b4; have HK4 := hid k4; clear b4 k4 h0; go_wp2_with (refine wpList_store_mid rfl 91 (.tmp 5) (.tmp 16) rfl wr.heap.size 0 E.toArray (by first | rfl | simp [Act.eval]) (by first | rfl | simp [Act.eval]) (qh3 _ _ _ (by exact hge)) hsz hall ?_; generalize hw5 : World.setCells _ _ _ _ = w5; have b5 : Below w.heap.size w w5 := (by rw [← hw5]; exact HB4.out _); have k5 : w5.cell? ⟨wr.heap.size, 0, none⟩ = some (.bool false) := (by rw [← hw5]; exact HK4.out _ (by decide)); clear hw5); exact ⟨⟨k + 1, by omega, rfl, by go_num, b5⟩, by show T.length - ((k : Int) + 1).toNat < T.length - (k : Int).toNat; omega⟩
  · have hki : ¬ (k : Int) < 4 := by omega
    go_wp2_with fail; go_ret; exact ⟨rfl, HBR.out⟩
end
end
section
open Go.RowKit
theorem qiz {w w1 w' : World} {g1 g' : Own8} {wb : Nat} {r' : Option Nat} (hb : Below w.heap.size w w1) (hg : ∀ b, b < w.heap.size → g1 b = 0) (hwb : w.heap.size ≤ wb) (hk : qaz g1 w1 wb none g' w' r') : Below w.heap.size w w' :=
 ⟨hk.same.1.trans hb.os, hk.same.2.1.trans hb.tape, hk.same.2.2.1.trans hb.output, Nat.le_trans hb.size hk.same.2.2.2, fun i hi => ((hk.blk i ⟨by have := hb.size; omega, hg i hi, by omega, fun e => by cases e⟩).1).trans (hb.block i hi)⟩
def AwL (wb a : Nat) (P : qag) (g1 : Own8) (w1 : World) (v3 : Value) (wr : World) : Prop := ∃ k : Nat, k ≤ 6 ∧ v3 = .int .i64 k ∧ ∃ g r, AwAt k wb a P ⟨18, 1, 0⟩ g wr r ∧ qaz g1 w1 wb none g wr r
def quw (w : World) (e : Ending) (w' : World) : Prop := e = .returned (.bool true) ∧ Below w.heap.size w w'
theorem AwAt.end' {wb a : Nat} {P : qag} {c : CfgC} {g : Own8} {w : World} {r : Option Nat} (h : AwAt 6 wb a P c g w r) : ∃ M T D steps sA sc S, WAt g w wb a P M c T D steps sA sc S ∧ (∀ i (h : i < T.length), T[i].busy = false) ∧ Don M ∧ M.qn ≤ 900000 := by
 obtain ⟨M, T, D, steps, sA, sc, S, hw, _, q, hin, _⟩ := h; obtain ⟨h1, h2⟩ := hin.fin (by decide); exact ⟨M, T, D, steps, sA, sc, S, hw, h1, h2, by have := q.ok.few.qn; omega⟩
theorem qtx (w : World) : Calls prog 10 #[] w (quw w) := by
 have TN := qog 18 1 0 w (by decide) (by decide) (by decide) (by decide) ⟨by decide, by decide⟩; simp only [show ((18 : Nat) : Int) = 18 from rfl, show ((1 : Nat) : Int) = 1 from rfl] at TN; have HTN := hid TN; clear TN; go_enter func10, ntmps10; go_wp2_with fail; refine HTN.out.mono ?_; rintro e w1 ⟨wb, a, P, g, rfl, hw1, hb1, hwb, hg⟩; have HC := hid (qB6 (c := ⟨18, 1, 0⟩) rfl hw1); unfold evL putA at HC; have HB := hid (And.intro hb1 hg); have hlw := hw1.bx.lt; clear hw1 hb1 hg HTN; go_wp2_with fail; refine HC.out.mono ?_; rintro e w2 ⟨rfl, g2, r2, haw, hk⟩; have HAW := hid haw; have HK := hid hk; clear haw hk HC; go_wp2_with fail; go_loopw [3] (fun v3 wr => AwL wb a P g w1 v3 wr) (fun v3 _ => 6 - (intOf v3).toNat)
 case atStart => exact ⟨0, by decide, rfl, g2, r2, HAW.out, HK.out⟩
 case round =>
  obtain ⟨k, hk, rfl, g3, r3, ha, hkp⟩ := hrel; have HKP := hid hkp; clear hkp; by_cases hlt : k < 6
  · have hki : (k : Int) < 6 := by omega
    have HC := hid (qB5 (c := ⟨18, 1, 0⟩) rfl hlt ha); unfold evL qig at HC; clear ha; go_wp2_with fail; refine HC.out.mono ?_; rintro e w4 ⟨code, rfl, g4, r4, ha4, hk4⟩; have HA4 := hid ha4; have HK4 := hid (HKP.out.trans hk4); clear ha4 hk4; go_wp2_with fail; exact ⟨⟨k + 1, by omega, by go_num, g4, r4, HA4.out, HK4.out⟩, by show 6 - ((k : Int) + 1).toNat < 6 - (k : Int).toNat; omega⟩
  · have hki : ¬ (k : Int) < 6 := by omega
    obtain rfl : k = 6 := by omega
    obtain ⟨M, T, D, steps, sA, sc, S, hw, hbusy, hd, hqn⟩ := ha.end'; have HS := hid (qv3 hw hd hqn); have HW := hid hw; have HBY := hid hbusy; have HBL := hid (qiz HB.out.1 HB.out.2 hwb HKP.out); clear ha hw hbusy hd hqn; go_wp2_with fail; refine HS.out.mono ?_; rintro e w5 ⟨A, cc, rfl, hown, hb5⟩; have HO := hid hown; have HB5 := hid hb5; clear hown hb5 HS; go_upto_region 9 with fail; generalize hw6 : World.alloc _ _ = w6; have R6 : w6.heap[w5.heap.size]? = some (.cells #[.slice A 1 cc, .slice none 0 0] 48 (0, 0)) := by rw [← hw6]; exact qaq _ _
    have b6 : Below w5.heap.size w5 w6 := by rw [← hw6]; exact (Below.refl _ _).alloc (Nat.le_refl _) _
    have HB6 := hid (HB5.out.trans (b6.mono HB5.out.size)); have HO6 := hid (HO.out.below b6); have HR6 := hid R6; have hl6 := qa0 R6; have HP := hid (qjm (HW.out.below HB6.out) HBY.out); clear hw6 R6 b6; go_wp2_with fail; refine HP.out.mono ?_; rintro e w7 ⟨rfl, hb7⟩; have R7 := (hb7.block _ hl6).trans HR6.out; have q0 := cell_of_row w7 _ 0 _ _ _ R7; have hl7 := qa0 R7; have HB7 := hid (HBL.out.trans ((HB6.out.trans (hb7.mono HB6.out.size)).mono HBL.out.size)); obtain ⟨x, off, rfl, hx, hcell⟩ : ∃ x off, A = some ⟨x, off, none⟩ ∧ x < w7.heap.size ∧ w7.cell? ⟨x, off + 1, none⟩ = some (.string ⟨#[49]⟩) := by
     rcases (HO6.out.below hb7).arr PrC.enc_len with h | ⟨x, off, hA, hx, hc⟩
     · cases h
     · exact ⟨x, off, hA, hx, hc 0 (by decide) 1 _ rfl⟩
    clear hb7 R7 HP; go_wp2_with fail; go_ret; exact ⟨rfl, HB7.out⟩
end
section
open Go.RowKit
theorem WIn.below {wb a : Nat} {P : qag} {c : CfgC} {s : Nat} {g : Own8} {w w' : World} {r : Option Nat} (h : WIn wb a P c s g w r) (hb : Below w.heap.size w w') : WIn wb a P c s g w' r := by
 obtain ⟨M, T, D, steps, sA, sc, S, hw, h2⟩ := h; exact ⟨M, T, D, steps, sA, sc, S, hw.below hb, h2⟩
theorem qbr.kept {w w' : World} {lo : Nat} {cl : qa7} {G : List qa7} (h : qbr w w.heap.size cl G) (hn : G = [] ∨ ∃ x off, cl.gA = some ⟨x, off, none⟩ ∧ lo ≤ x) (hk : ∀ x, lo ≤ x → x < w.heap.size → w'.heap[x]? = w.heap[x]?) (hz : w.heap.size ≤ w'.heap.size) : qbr w' w'.heap.size cl G := by
 refine ⟨?_, h.len, h.cap, h.max⟩; rcases hn with rfl | ⟨x, off, hA, hx⟩
 · exact Arr.nil
 rcases h.arr with h0 | ⟨b, o, hA', hb, hc⟩
 · exact .inl h0
 · rw [hA] at hA'
   cases hA'
   refine .inr ⟨x, off, hA, by omega, fun i hi j v hv => ?_⟩; rw [← hc i hi j v hv]; exact qaj (p := ⟨x, _, none⟩) (hk x hx hb)
section
variable {g : Own8} {w : World} {wb a : Nat} {P : qag} {c : CfgC} {s : Nat} {r : Option Nat}
theorem qBl (h : WIn wb a P c s g w r) (hs : s ≤ 1000) (hth : c.th ≤ 4) (e : EvC) {w0 : World} {lo : Nat} (hok : EvOK w0 lo c.th e) (hk : ∀ x, lo ≤ x → x < w0.heap.size → w.heap[x]? = w0.heap[x]? ∧ KW g w.heap.size wb r x) (hz : w0.heap.size ≤ w.heap.size) (h3 : ¬ e.k = 3) (h5 : ¬ e.k = 5) (h8 : ¬ e.cl.kind = 8) :
 Calls prog 14 #[.pointer (some ⟨wb, 0, none⟩), .agg #[.int .i64 e.k, .int .i64 e.t, .int .i64 e.l, .int .i64 e.cl.kind, .string e.cl.key, .string e.cl.val, .string e.cl.tx, .slice e.cl.gA e.cl.gn e.cl.gc, .slice e.kA e.kn e.kc]] w (qmj wb a P c (s + 1) r g w) := by
 obtain ⟨k, t, l, cl, kA, kn, kc⟩ := e; simp only at h3 h5 h8 ⊢; have hkd := hok.kd; simp only at hkd; rcases (by omega : k = 1 ∨ k = 2 ∨ k = 4) with rfl | rfl | rfl
 · obtain ⟨⟨t', ht, htl⟩, G, hc⟩ := hok.call rfl
   simp only at ht hc; subst ht; refine qtd h hs hth t' htl l cl kA kn kc hc (hc.inn.kept hc.new (fun x h1 h2 => (hk x h1 h2).1) hz) ?_ h8; rcases hc.new with h0 | ⟨x, off, hA, hx⟩
   · exact .inl h0
   · rcases hc.inn.arr with h0 | ⟨b, o, hA', hb, _⟩
     · exact .inl h0
     · rw [hA] at hA'
       cases hA'
       exact .inr ⟨x, off, hA, (hk x hx hb).2⟩
 · obtain ⟨t', ht, htl⟩ := hok.step rfl
   simp only at ht; subst ht; exact qtc h hs hth t' htl l cl kA kn kc
 · exact qte h hs t l cl kA kn kc
end
theorem Arr.ev {w : World} {B : Nat} {A : Option Addr} {l : List EvC} (h : Arr EvC.enc 9 w B A l) {i : Nat} (hi : i < l.length) : ∃ b off, A = some ⟨b, off, none⟩ ∧ b < B ∧ w.cell? ⟨b, off + i * 9, none⟩ = some (.int .i64 l[i].k) ∧ w.cell? ⟨b, off + i * 9 + 1, none⟩ = some (.int .i64 l[i].t) ∧ w.cell? ⟨b, off + i * 9 + 2, none⟩ = some (.int .i64 l[i].l) ∧
 w.cell? ⟨b, off + i * 9 + 3, none⟩ = some (.int .i64 l[i].cl.kind) ∧ w.cell? ⟨b, off + i * 9 + 4, none⟩ = some (.string l[i].cl.key) ∧ w.cell? ⟨b, off + i * 9 + 5, none⟩ = some (.string l[i].cl.val) ∧ w.cell? ⟨b, off + i * 9 + 6, none⟩ = some (.string l[i].cl.tx) ∧ w.cell? ⟨b, off + i * 9 + 7, none⟩ = some (.slice l[i].cl.gA l[i].cl.gn l[i].cl.gc) ∧ w.cell? ⟨b, off + i * 9 + 8, none⟩ = some (.slice l[i].kA l[i].kn l[i].kc) := by
 rcases h with h | ⟨b, off, hA, hb, hc⟩
 · subst h; exact absurd hi (Nat.not_lt_zero _)
 · exact ⟨b, off, hA, hb, hc i hi 0 _ rfl, hc i hi 1 _ rfl, hc i hi 2 _ rfl, hc i hi 3 _ rfl, hc i hi 4 _ rfl, hc i hi 5 _ rfl, hc i hi 6 _ rfl, hc i hi 7 _ rfl, hc i hi 8 _ rfl⟩
theorem qAg {wb a : Nat} {P : qag} {c : CfgC} {s : Nat} {g g' : Own8} {w w3 w' : World} {r r' : Option Nat} (h : WIn wb a P c s g w r) (_hb : Below w.heap.size w w3) (hk : qaz g w3 wb r g' w' r') : ∀ x, w.heap.size ≤ x → x < w3.heap.size → w'.heap[x]? = w3.heap[x]? ∧ KW g' w'.heap.size wb r' x := by
 obtain ⟨M, T, D, steps, sA, sc, S, hw, hr, _⟩ := h; intro x h1 h2; have hl := hw.bx.lt; refine hk.blk x ⟨h2, hw.ar.far x h1, by omega, fun e => ?_⟩; rw [hr] at e; have := qfp hw.st.1 e; omega
theorem qyy {g : Own8} {w : World} {wb a nn : Nat} {P : qag} (hn : 18 ≤ nn) (h : WAt g w wb a P (newM nn 2) ⟨nn, 2, 0⟩ (List.replicate 4 thr0) (fun _ => d0) 0 none 0 []) : WIn wb a P ⟨nn, 2, 0⟩ 0 g w none :=
 ⟨newM nn 2, List.replicate 4 thr0, fun _ => d0, 0, none, 0, [], h, rfl, qy1 hn, by decide, by decide⟩
theorem qBn (lines : Int) : ∃ nn : Nat, cfgV lines 0 = .agg #[.int .i64 (nn : Int), .int .i64 2, .int .i64 0] ∧ 18 ≤ nn ∧ nn ≤ 250 := by
 obtain ⟨k, e, hk⟩ := qd5 lines 4 (by decide); refine ⟨18 + 8 * k, ?_, by omega, by omega⟩; unfold cfgV; rw [e]; rw [show (18 : Int) + 8 * (k : Int) = ((18 + 8 * k : Nat) : Int) by omega]; rfl
end
section
open Go.RowKit
def TqO (n wb a nn : Nat) (P : qag) (g1 : Own8) (w1 : World) (v8 : Value) (wr : World) : Prop := ∃ k : Nat, k ≤ n ∧ v8 = .int .i64 k ∧ ∃ s g r, s ≤ 7 * k ∧ WIn wb a P ⟨nn, 2, 0⟩ s g wr r ∧ qaz g1 w1 wb none g wr r
def TqI (n j wb a nn : Nat) (P : qag) (g3 : Own8) (w3 : World) (r3 : Option Nat) (v10 : Value) (wr : World) : Prop := ∃ k : Nat, k ≤ n ∧ v10 = .int .i64 k ∧ ∃ s g r, s ≤ 7 * j + k ∧ WIn wb a P ⟨nn, 2, 0⟩ s g wr r ∧ qaz g3 w3 wb r3 g wr r
theorem qkw (lines : Int) (l : List qem) (A : Option Addr) (c : Nat) (w : World) (hA : Arr qem.enc 5 w w.heap.size A l) (hc : l.length ≤ c) (hm : c ≤ 9223372036854775807) : Calls prog 6 #[.int .i64 lines, .slice A l.length c] w (quw w) := by
 have TL := hid (qso l A c 120 w hA hc hm); have TA := hid (fun W => qtx W); obtain ⟨nn, hcfg, hn1, hn2⟩ := qBn lines; have TC := qqr lines 0 w; rw [hcfg] at TC; have HTC := hid TC; have TN := hid (fun W => qog nn 2 0 W hn1 hn2 (by decide) (by decide) ⟨by decide, by decide⟩); simp only [show ((2 : Nat) : Int) = 2 from rfl] at TN; have HA := hid hA; clear TC hA hcfg; go_enter func6, ntmps6; go_wp2_with fail; refine TL.out.mono ?_; rintro e w2 ⟨big, rfl, he, hbig⟩; rw [he]; clear he TL; cases big with
 | true =>
  go_wp2_with fail; refine (TA.out w).mono ?_; rintro e w3 ⟨rfl, hb3⟩; go_wp2_with fail; go_ret; exact ⟨rfl, hb3⟩
 | false =>
  have hl120 := hbig rfl; clear hbig; have hl120 : l.length ≤ 120 := by omega
  go_wp2_with fail; refine HTC.out.mono ?_; rintro e w3 ⟨rfl, hb3⟩; have HB3 := hid hb3; clear hb3 HTC; go_upto_region 4 with fail; generalize hw4 : World.alloc _ _ = w4; have R4 : w4.heap[w3.heap.size]? = some (.cells #[.int .i64 (nn : Int), .int .i64 2, .int .i64 0] 27 (0, 0)) := by rw [← hw4]; exact qaq _ _
  have b4 : Below w3.heap.size w3 w4 := by rw [← hw4]; exact (Below.refl _ _).alloc (Nat.le_refl _) _
  have HB4 := hid (HB3.out.trans (b4.mono HB3.out.size)); have k0 := cell_of_row w4 _ 0 _ _ _ R4; have k1 := cell_of_row w4 _ 1 _ _ _ R4; have k2 := cell_of_row w4 _ 2 _ _ _ R4; have hl4 := qa0 R4; have HR4 := hid R4; clear hw4 b4 R4; go_wp2_with fail; refine (TN.out w4).mono ?_; rintro e w5 ⟨wb, a, P, g, rfl, hw5, hb5, hwb, hg⟩; have HW := hid (qyy hn1 hw5); have HB := hid (And.intro hb5 hg); clear hw5 hb5 hg TN k0 k1 k2; go_wp2_with fail; go_loopw [8] (fun v8 wr => TqO l.length wb a nn P g w5 v8 wr) (fun v8 _ => l.length - (intOf v8).toNat)
  case atStart => exact ⟨0, Nat.zero_le _, rfl, 0, g, none, Nat.le_refl _, HW.out, qaz.refl _ _ _ _⟩
  case round =>
   obtain ⟨k, hk, rfl, s, g1, r1, hs, hin, hkp⟩ := hrel; obtain ⟨wo, hwo⟩ : ∃ x, x = wr := ⟨_, rfl⟩; subst hwo; have HIN := hid hin; have HKP := hid hkp; have hbl := qiz HB.out.1 HB.out.2 hwb hkp; have R4' := (hbl.block _ hl4).trans HR4.out; have q1 := cell_of_row wo _ 1 _ _ _ R4'; have hlr := qa0 R4'; have HBL := hid (HB4.out.trans (hbl.mono HB4.out.size)); clear hin hkp hbl R4'; by_cases hlt : k < l.length
   · have hki : (k : Int) < (l.length : Int) := by omega
     obtain ⟨pb, off, rfl, hpb, p0, p1, p2, p3, p4⟩ := (HA.out.below HBL.out).pick hlt; have hpr : pb < wo.heap.size := by have := HBL.out.size; omega
     have TE := hid (fun W => qqm l[k] 2 W (by decide) (by decide)); simp only [show ((2 : Nat) : Int) = 2 from rfl] at TE; go_upto_region 10 with fail; go_still_tail 6, (by kernel_rfl); change wpList _ _ _ _ _ (World.drew wo); obtain ⟨w6, hw6⟩ : ∃ x, x = World.drew wo := ⟨_, rfl⟩; rw [← hw6]; have HD6 := hid (show Below wo.heap.size wo w6 by rw [hw6]; exact (Below.refl _ _).drew); clear hw6 p0 p1 p2 p3 p4 q1; go_wp2_with fail; refine (TE.out w6).mono ?_; rintro e w7 ⟨A7, c7, es, rfl, harr, hec, hcm, hel, hb7, hnew, hok⟩; have HE := hid (And.intro harr hnew); have HOK := hid hok; have HB7 := hid (HD6.out.trans (hb7.mono HD6.out.size)); have HK7 := hid (HKP.out.trans (qaz.below HB7.out)); have HIN7 := hid (HIN.out.below HB7.out); have hz67 : wo.heap.size ≤ w6.heap.size := HD6.out.size; clear harr hnew hok hb7 TE; go_wp2_with fail; go_loopw [10] (fun v10 wq => TqI es.length k wb a nn P g1 w7 r1 v10 wq) (fun v10 _ => es.length - (intOf v10).toNat)
     case atStart => exact ⟨0, Nat.zero_le _, rfl, s, g1, r1, by omega, HIN7.out, qaz.refl _ _ _ _⟩
     case round =>
      obtain ⟨k2, hk2, rfl, s2, g2, r2, hs2, hin2, hkp2⟩ := hrel; have HIN2 := hid hin2; have HKP2 := hid hkp2; clear hin2 hkp2; by_cases hlt2 : k2 < es.length
      · have hki2 : (k2 : Int) < (es.length : Int) := by omega
        have hnk := qAg HIN.out HB7.out HKP2.out; obtain ⟨xb, xo, hxA, hxl, e0, e1, e2, e3, e4, e5, e6, e7, e8⟩ := HE.out.1.ev hlt2; have hxg : wo.heap.size ≤ xb := by
         rcases HE.out.2 with h | ⟨x, off, hA, hx⟩
         · rw [h] at hlt2; exact absurd hlt2 (Nat.not_lt_zero _)
         · rw [hA] at hxA; cases hxA; omega
        have hsame := (hnk xb hxg hxl).1; have hev := HOK.out es[k2] (List.getElem_mem hlt2); obtain ⟨ev, hE⟩ : ∃ ev, ev = es[k2] := ⟨_, rfl⟩; rw [← hE] at e0 e1 e2 e3 e4 e5 e6 e7 e8 hev; have e0 := (qaj (p := ⟨xb, _, none⟩) hsame).trans e0; have e1 := (qaj (p := ⟨xb, _, none⟩) hsame).trans e1; have e2 := (qaj (p := ⟨xb, _, none⟩) hsame).trans e2; have e3 := (qaj (p := ⟨xb, _, none⟩) hsame).trans e3; have e4 := (qaj (p := ⟨xb, _, none⟩) hsame).trans e4; have e5 := (qaj (p := ⟨xb, _, none⟩) hsame).trans e5; have e6 := (qaj (p := ⟨xb, _, none⟩) hsame).trans e6; have e7 := (qaj (p := ⟨xb, _, none⟩) hsame).trans e7; have e8 := (qaj (p := ⟨xb, _, none⟩) hsame).trans e8; have HNK := hid hnk; have HEV := hid hev; have hzq : w7.heap.size ≤ wr.heap.size := HKP2.out.same.2.2.2; subst hxA; clear hE hev hnk hsame; by_cases h3 : ev.k = 3
        · have d3 : (ev.k == 3) = true := beq_iff_eq.2 h3
          go_wp2_with fail; exact ⟨⟨k2 + 1, by omega, by go_num, s2, g2, r2, by omega, HIN2.out, HKP2.out⟩, by show es.length - ((k2 : Int) + 1).toNat < es.length - (k2 : Int).toNat; omega⟩
        · have d3 : (ev.k == 3) = false := beq_eq_false_iff_ne.2 h3
          by_cases h5 : ev.k = 5
          · have d5 : (ev.k == 5) = true := beq_iff_eq.2 h5
            go_wp2_with fail; exact ⟨⟨k2 + 1, by omega, by go_num, s2, g2, r2, by omega, HIN2.out, HKP2.out⟩, by show es.length - ((k2 : Int) + 1).toNat < es.length - (k2 : Int).toNat; omega⟩
          · have d5 : (ev.k == 5) = false := beq_eq_false_iff_ne.2 h5
            by_cases h8 : ev.cl.kind = 8
            · have d8 : (ev.cl.kind == 8) = true := beq_iff_eq.2 h8
              go_wp2_with fail; exact ⟨⟨k2 + 1, by omega, by go_num, s2, g2, r2, by omega, HIN2.out, HKP2.out⟩, by show es.length - ((k2 : Int) + 1).toNat < es.length - (k2 : Int).toNat; omega⟩
            · have d8 : (ev.cl.kind == 8) = false := beq_eq_false_iff_ne.2 h8
              have HDO := hid (qBl (c := ⟨nn, 2, 0⟩) HIN2.out (by omega) (by show 2 ≤ 4; decide) ev HEV.out (fun x h1 h2 => HNK.out x (by omega) h2) hzq h3 h5 h8); clear HNK HEV; go_wp2_with fail; refine HDO.out.mono ?_; rintro e w9 ⟨code, rfl, g9, r9, hin9, hk9⟩; have HIN9 := hid hin9; have HK9 := hid (HKP2.out.trans hk9); clear hin9 hk9; go_wp2_with fail; exact ⟨⟨k2 + 1, by omega, by go_num, s2 + 1, g9, r9, by omega, HIN9.out, HK9.out⟩, by show es.length - ((k2 : Int) + 1).toNat < es.length - (k2 : Int).toNat; omega⟩
      · have hki2 : ¬ (k2 : Int) < (es.length : Int) := by omega
        go_wp2_with fail; exact ⟨⟨k + 1, by omega, by go_num, s2, g2, r2, by omega, HIN2.out, HK7.out.trans HKP2.out⟩, by show l.length - ((k : Int) + 1).toNat < l.length - (k : Int).toNat; omega⟩
   · have hki : ¬ (k : Int) < (l.length : Int) := by omega
     obtain ⟨M, T, D, steps, sA, sc, S, hw, _, q, _⟩ := HIN.out; have T1 := hid (qmm hw); have T2 := hid (qv4 hw); have T3 := hid (qv5 hw); rw [q.now.1] at T2; rw [q.now.2] at T3; clear hw q; go_wp2_with fail; refine T1.out.mono ?_; rintro e w6 ⟨rfl, he⟩; rw [he]; clear he T1; go_wp2_with fail; refine T2.out.mono ?_; rintro e w6 ⟨rfl, he⟩; rw [he]; clear he T2; go_wp2_with fail; refine T3.out.mono ?_; rintro e w6 ⟨rfl, he⟩; rw [he]; clear he T3; go_wp2_with fail; refine (TA.out wo).mono ?_; rintro e w6 ⟨rfl, hb6⟩; go_wp2_with fail; go_ret; exact ⟨rfl, HBL.out.trans (hb6.mono HBL.out.size)⟩
end
end Go.Proofs.YtecikkjbnkhhkaaGreat
