/- A part of the walk. -/
import Derived.Test.YtecikkjbnkhhkaaGreatP28
import Derived.OpenShut
import Derived.ProofKit
namespace Go.Proofs.YtecikkjbnkhhkaaGreat
open _root_.Go.Proofs.Tryz
set_option maxHeartbeats 4000000
set_option maxRecDepth 100000
section
open Go.RowKit
def qee (e : Nat) (x : ChgC) : Prop := qbv x = true → mayB (qca x 1 1 e) = true ∧ (qca x 1 1 e).cls = x.cls
def quq (e : Nat) (l : List ChgC) (w : World) (r : Ending) (w' : World) : Prop := ∃ code : Int, r = .returned (.int .i64 code) ∧ Below w.heap.size w w' ∧ (code = 0 → ∀ i (h : i < l.length), qee e l[i]) ∧ (code ≠ 0 → ∃ i, ∃ h : i < l.length, ¬ qee e l[i])
section
variable {g : Own8} {w : World} {a : Nat} {P : qag} {M : qa4}
theorem qwm (h : qa6 g w a P M) (l : List ChgC) (A : Option Addr) (c e : Nat) (hA : Arr ChgC.enc 11 w w.heap.size A l) (_hc : l.length ≤ c) (_hm : c ≤ 9223372036854775807) (hl : l.length ≤ 100000) (hid0 : M.id ≤ 1000000) (hver0 : M.ver ≤ 1000000) (hsz : ∀ x ∈ l, x.key.size ≤ 1000000 ∧ x.val.size ≤ 1000000) :
 Calls prog 307 #[.pointer (some ⟨a, 0, none⟩), .slice A l.length c, .int .u64 (e : Int)] w (quq e l w) := by
 have TN := hid (qnb h); have HA := hid hA; have HSZ := hid hsz; clear h hA hsz; generalize M.id = d0 at *; generalize M.ver = v0 at *; go_enter func307, ntmps307; go_wp2_with fail; refine TN.out.mono ?_; rintro r0 w1 ⟨rfl, nq, rfl⟩; have HB1 := hid (qa1 (Below.refl w.heap.size w) nq); generalize World.drewN w nq = w1 at *; clear TN; go_wp2_with fail; go_loopw [7, 8, 9, 20] (fun v7 v8 v9 v20 wr => ∃ k d v : Nat, k ≤ l.length ∧ d ≤ d0 + k ∧ v ≤ v0 + k ∧ v7 = .int .u64 d ∧ v8 = .int .u64 v ∧ v9 = .bool false ∧ v20 = .int .i64 k ∧ (∀ i (h : i < l.length), i < k → qee e l[i]) ∧ Below w.heap.size w wr) (fun _ _ _ v20 _ => l.length - (intOf v20).toNat)
 case atStart => exact ⟨0, d0, v0, Nat.zero_le _, Nat.le_refl _, Nat.le_refl _, rfl, rfl, rfl, rfl, fun i _ hi => absurd hi (Nat.not_lt_zero i), HB1.out⟩
 case round =>
  obtain ⟨k, d, v, hkl, hd, hv, rfl, rfl, rfl, rfl, hno, hbr⟩ := hrel; have HNO := hid hno; have HBR := hid hbr; clear hno HB1; by_cases hlt : k < l.length
  · obtain ⟨b, off, rfl, hB, k0, k1, k2, k3, k4, k5, k6, k7, k8, k9, kA⟩ := ((HA.out.below hbr).more hbr.size).chg hlt
    have i1 : (0 : Int) ≤ (k : Int) := by omega
    have i2 : (k : Int) < (l.length : Int) := by omega
    obtain ⟨x, hx⟩ : ∃ x, x = l[k] := ⟨_, rfl⟩; have hxs := HSZ.out l[k] (List.getElem_mem hlt); rw [← hx] at k0 k1 k2 k3 k4 k5 k6 k7 k8 k9 kA hxs; have HX := hid hx; have HXS := hid hxs; clear hbr hx hxs; go_upto_region 6 with fail; generalize hw2 : World.alloc _ _ = w2; have R0 : w2.heap[wr.heap.size]? = some (.cells x.enc.toArray 376 (0, 0)) := by rw [← hw2]; exact qea _ x _
    have b2 : Below w.heap.size w w2 := by rw [← hw2]; exact HBR.out.alloc HBR.out.size _
    obtain ⟨c0, c1, c2, c3, c4, c5, c6, c7, c8, c9, cA⟩ := ChgC.cells R0; have hl0 := qa0 R0; have HR0 := hid R0; have HB2 := hid b2; obtain ⟨vb, hvb⟩ : ∃ vb, vb = wr.heap.size := ⟨_, rfl⟩; rw [← hvb] at HR0 c0 c1 c2 c3 c4 c5 c6 c7 c8 c9 cA hl0 ⊢; have HXV := hid x.v_eq; clear hw2 R0 b2 k0 k1 k2 k3 k4 k5 k6 k7 k8 k9 kA hvb hB; go_wp2_with fail; have TM := qf4 x w2; rw [HXV.out] at TM; refine TM.mono ?_; rintro r w3 ⟨rfl, hb3⟩; have R0 := qac hb3 hl0 HR0.out; obtain ⟨c0, c1, c2, c3, c4, c5, c6, c7, c8, c9, cA⟩ := ChgC.cells R0; have hl0 := qa0 R0; have HR0 := hid R0; have HB3 := hid (HB2.out.trans (hb3.mono HB2.out.size)); clear hb3 TM R0 HB2 HBR; cases hnd : qbv x with
    | false =>
     have HND := hid hnd; clear hnd; go_wp2_with fail; exact ⟨⟨k + 1, d, v, by omega, by omega, by omega, rfl, rfl, rfl, by go_num, fun i hi h2 => (by
      by_cases hik : i = k
      · subst hik; intro hn; rw [← HX.out, HND.out] at hn; cases hn
      · exact HNO.out i hi (by omega)), HB3.out⟩, by simp [intOf]; omega⟩
    | true =>
     have HND := hid hnd; clear hnd; go_wp2_with fail; have TL := qoz x 1 1 e w3; rw [HXV.out] at TL; refine TL.mono ?_; rintro r w4 ⟨rfl, hb4⟩; obtain ⟨y, hy⟩ : ∃ y, y = qca x 1 1 e := ⟨_, rfl⟩; rw [← hy]; have HYV := hid (show y.v = .agg #[.int .i64 y.cls, .int .i64 y.kind, .int .u64 (y.id : Int), .int .u64 (y.ver : Int), .int .u64 (y.ep : Int), .string y.key, .string y.val] from rfl); rw [HYV.out]; have hys : y.key.size ≤ 1000000 ∧ y.val.size ≤ 1000000 := by
      rw [hy, qca]; have := HXS.out; split
      · exact this
      · split
        · exact ⟨Nat.zero_le _, this.2⟩
        · exact ⟨Nat.zero_le _, Nat.zero_le _⟩
     have HY := hid hy; have HYS := hid hys; have R0 := qac hb4 hl0 HR0.out; have hl0 := qa0 R0; have HR0 := hid R0; have HB4 := hid (HB3.out.trans (hb4.mono HB3.out.size)); clear hb4 TL R0 HB3 hy hys c0 c1 c2 c3 c4 c5 c6 c7 c8 c9 cA; go_upto_region 8 with fail; generalize hw5 : World.alloc _ _ = w5; have R1 : w5.heap[w4.heap.size]? = some (.cells y.enc.toArray 203 (0, 0)) := by rw [← hw5]; exact (qa2 _ _ _).trans (if_pos rfl)
     have bk5 : Below w4.heap.size w4 w5 := by rw [← hw5]; exact (Below.refl _ _).alloc (Nat.le_refl _) _
     obtain ⟨yb, hyb⟩ : ∃ yb, yb = w4.heap.size := ⟨_, rfl⟩; have R0 := qac bk5 hl0 HR0.out; have HB5 := hid (HB4.out.trans (bk5.mono HB4.out.size)); rw [← hyb] at R1 ⊢; obtain ⟨y0, y1, y2, y3, y4, y5, y6⟩ := BlkC.cells R1; have hl1 := qa0 R1; have hl0 := qa0 R0; have HR0 := hid R0; have HR1 := hid R1; clear hw5 bk5 hyb R0 R1 HB4; go_wp2_with fail; have TB := qkl y w5 HYS.out.1 HYS.out.2; rw [HYV.out] at TB; refine TB.mono ?_; rintro r w6 ⟨rfl, hb6⟩; have R0 := qac hb6 hl0 HR0.out; have R1 := qac hb6 hl1 HR1.out; obtain ⟨c0, c1, c2, c3, c4, c5, c6, c7, c8, c9, cA⟩ := ChgC.cells R0; obtain ⟨y0, y1, y2, y3, y4, y5, y6⟩ := BlkC.cells R1; have hl1 := qa0 R1; have hl0 := qa0 R0; have HB6 := hid (HB5.out.trans (hb6.mono HB5.out.size)); clear hb6 R0 R1 HR0 HR1 HB5 TB; cases hmay : mayB y with
     | false =>
      have HM := hid hmay; clear hmay; go_wp2_with fail; go_ret; exact ⟨3, rfl, HB6.out, (fun h0 => by cases h0), fun _ => ⟨k, hlt, fun hf => by
       have := (hf (by rw [← HX.out]; exact HND.out)).1
       rw [← HX.out, ← HY.out, HM.out] at this
       cases this⟩⟩
     | true =>
      have HM := hid hmay; clear hmay; by_cases hcl : y.cls = x.cls; rotate_left
      · have hcb : (y.cls != x.cls) = true := by rw [bne_iff_ne]; exact hcl
        have HCL := hid hcl; clear hcl; go_wp2_with fail; go_ret; exact ⟨3, rfl, HB6.out, (fun h0 => by cases h0), fun _ => ⟨k, hlt, fun hf => by
         have := (hf (by rw [← HX.out]; exact HND.out)).2
         rw [← HX.out, ← HY.out] at this
         exact HCL.out this⟩⟩
      have hcb : (y.cls != x.cls) = false := by rw [bne_eq_false_iff_eq]; exact hcl
      have HCL := hid hcl; have HFA : Hid (∀ i (h : i < l.length), i < k + 1 → qee e l[i]) := hid fun i hi h2 => (by
       by_cases hik : i = k
       · subst hik
         intro _
         rw [← HX.out, ← HY.out]
         exact ⟨HM.out, HCL.out⟩
       · exact HNO.out i hi (by omega))
      obtain ⟨v1, hv1⟩ : ∃ v1, v1 = v + 1 := ⟨_, rfl⟩; obtain ⟨d1, hd1⟩ : ∃ d1, d1 = d + 1 := ⟨_, rfl⟩; have hw1 : IntKind.u64.wrap ((v : Int) + 1) = (v1 : Int) := by rw [IntKind.wrap_u64]; omega
      have hw2 : IntKind.u64.wrap ((d : Int) + 1) = (d1 : Int) := by rw [IntKind.wrap_u64]; omega
      have g1 : ¬ (2305843009213693952 : Int) < (v1 : Int) := by omega
      have g2 : ¬ (2305843009213693952 : Int) < (d1 : Int) := by omega
      have g3 : ¬ (2305843009213693952 : Int) < (d : Int) := by omega
      have HG1 := hid g1; have HG2 := hid g2; have HG3 := hid g3; have HV1 := hid (show v1 ≤ v0 + (k + 1) by omega); have HD1 := hid (show d1 ≤ d0 + (k + 1) by omega); have HD0 := hid (show d ≤ d0 + (k + 1) by omega); clear hcl hv1 hd1; cases h4 : (x.kind == 4) with
      | true =>
       go_wp2_with fail; exact ⟨⟨k + 1, d1, v1, by omega, HD1.out, HV1.out, rfl, rfl, by rw [decide_eq_false (Int.not_lt.2 HG1.out), decide_eq_false (Int.not_lt.2 HG2.out)]; rfl, by go_num, HFA.out, HB6.out⟩, by simp [intOf]; omega⟩
      | false =>
       cases h2 : (x.kind == 2) with
       | false =>
        go_wp2_with fail; exact ⟨⟨k + 1, d, v1, by omega, HD0.out, HV1.out, rfl, rfl, by rw [decide_eq_false (Int.not_lt.2 HG1.out), decide_eq_false (Int.not_lt.2 HG3.out)]; rfl, by go_num, HFA.out, HB6.out⟩, by simp [intOf]; omega⟩
       | true =>
        cases hh : x.had with
        | true =>
         rw [hh] at c3; go_wp2_with fail; exact ⟨⟨k + 1, d, v1, by omega, HD0.out, HV1.out, rfl, rfl, by rw [decide_eq_false (Int.not_lt.2 HG1.out), decide_eq_false (Int.not_lt.2 HG3.out)]; rfl, by go_num, HFA.out, HB6.out⟩, by simp [intOf]; omega⟩
        | false =>
         rw [hh] at c3; go_wp2_with fail; exact ⟨⟨k + 1, d1, v1, by omega, HD1.out, HV1.out, rfl, rfl, by rw [decide_eq_false (Int.not_lt.2 HG1.out), decide_eq_false (Int.not_lt.2 HG2.out)]; rfl, by go_num, HFA.out, HB6.out⟩, by simp [intOf]; omega⟩
  · obtain rfl : k = l.length := by omega
    clear hbr; go_wp2_with fail; go_ret; exact ⟨0, rfl, HBR.out, fun _ i hi => HNO.out i hi hi, fun h0 => absurd rfl h0⟩
end
end
section
open Go.RowKit
def qft : List Value := [.func (.func 181) #[] #[], .func (.func 182) #[] #[], .func (.func 183) #[] #[], .func (.func 184) #[] #[], .func (.func 185) #[] #[], .func (.func 186) #[] #[], .func (.func 187) #[] #[]]
theorem qfs : (prog.info? 283).map (·.size) = some 7 := by kernel_rfl
theorem qla : ∀ v ∈ qft, v.oneCell' = true := by
 intro v hv; simp only [qft, List.mem_cons, List.not_mem_nil, or_false] at hv; rcases hv with rfl | rfl | rfl | rfl | rfl | rfl | rfl <;> rfl
theorem ql8 (w : World) : Calls prog 140 #[] w fun e w' => e = .returned (.agg qft.toArray) ∧ Below w.heap.size w w' := by
 go_enter func140, ntmps140; go_upto_region 1 with fail; generalize hw1 : World.alloc _ _ = w1; obtain ⟨cur, R1, hcur⟩ : ∃ cur, w1.heap[w.heap.size]? = some (.cells cur 283 (0, 0)) ∧ cur.size = 7 := ⟨_, by rw [← hw1]; exact (qa2 _ _ _).trans (if_pos rfl), rfl⟩; have HB1 : Hid (Below w.heap.size w w1) := hid (by rw [← hw1]; exact (Below.refl _ _).alloc (Nat.le_refl _) _); have TH := hid (qai R1 hcur); have hl1 := qa0 R1; have HAL := hid (all_oneCell_toArray qla); obtain ⟨w2, hw2⟩ : ∃ w2, w2 = w1.setCells w.heap.size 0 qft.toArray.toList := ⟨_, rfl⟩; have HW2 := hid hw2; have HRG : Hid (w2.rangeAt w.heap.size 0 qft) := hid (by rw [hw2]; exact World.rangeAt_setCells_same w1 w.heap.size 0 qft TH.out); have HB2 : Hid (Below w.heap.size w w2) := hid (by rw [hw2]; exact qae (Nat.le_refl _) _ _ _ HB1.out); clear hw1 hw2 R1 hcur; go_wp2_with (refine wpList_store_mid rfl 283 (.tmp 0) (.tmp 1) rfl w.heap.size 0 qft.toArray (by first | rfl | simp [Act.eval]) (by first | rfl | simp [Act.eval, qft]) TH.out qfs HAL.out ?_; rw [← HW2.out]); refine bodyPost_ret (v := .agg qft.toArray) ?_ rfl ⟨rfl, HB2.out⟩; exact qah results140 _ _ w.heap.size qft _ rfl HRG.out underlying283 rfl qfs
end
section
open Go.ChangeShapes Go.WideShapes Go.ChangeAt Go.RowKit
theorem qyk : ownKnob prog.godebug = none := by kernel_rfl
theorem qmo : laidOutB prog = true := by kernel_rfl
theorem qjd {H : Type} {enc : TypeId × Value → H} {P : Program} (hl : laidOutB P = true) {W W' : World} (hb : Below W.heap.size W W') :
 ∀ (ts : List TypeId) (vs : List Value) (ds : List (DataW H)) (ps : List MemPlace), (∀ t ∈ ts, P.readableRec t = true ∧ t < P.types.size) →
  DataW.TrodAll enc P W 0 (fun _ => true) true ts vs ds ps → (∀ x ∈ ps, x.block < W.heap.size) → DataW.TrodAll enc P W' 0 (fun b => decide (b < W.heap.size)) true ts vs ds ps
 | [], [], [], ps, _, h, _ => h
 | t :: ts, v :: vs, d :: ds, ps, ht, ⟨p, q, h0, h1, e⟩, hp => by
  subst e
  exact ⟨p, q, Below.trod hl (ht t (by simp)).1 (ht t (by simp)).2 h0 hb fun x hx => hp x (by simp [hx]),
   qjd hl hb ts vs ds q (fun t' h' => ht t' (by simp [h'])) h1 fun x hx => hp x (by simp [hx]), rfl⟩
 | [], [], _ :: _, _, _, h, _ => absurd h (by simp [DataW.TrodAll])
 | [], _ :: _, _, _, _, h, _ => absurd h (by simp [DataW.TrodAll])
 | _ :: _, [], _, _, _, h, _ => absurd h (by simp [DataW.TrodAll])
 | _ :: _, _ :: _, [], _, _, h, _ => absurd h (by simp [DataW.TrodAll])
theorem qeo {H : Type} {enc : TypeId × Value → H} {P : Program} {W : World} {b : Nat} {sp : Nat → Bool} {hd : Bool} :
 ∀ (ts : List TypeId) (vs : List Value) (ds : List (DataW H)) (ps : List MemPlace), DataW.TrodAll enc P W b sp hd ts vs ds ps → ds.length = ts.length
 | [], [], [], _, _ => rfl
 | t :: ts, v :: vs, d :: ds, _, ⟨p, q, _, h1, _⟩ => by simp [qeo ts vs ds q h1]
 | [], [], _ :: _, _, h => absurd h (by simp [DataW.TrodAll])
 | [], _ :: _, _, _, h => absurd h (by simp [DataW.TrodAll])
 | _ :: _, [], _, _, h => absurd h (by simp [DataW.TrodAll])
 | _ :: _, _ :: _, [], _, h => absurd h (by simp [DataW.TrodAll])
def Walk (f : FuncId) (fn : Func) : Prop :=
 ∀ (H : Type) (enc : TypeId × Value → H) (W : World) (base : Nat) (args : Array Value) (ds : List (DataW H)) (p : List MemPlace),
  (∀ (j : Nat) t v, fn.params[j]? = some t → args[j]? = some v → Value.okWide prog W .any base t v) →
  DataW.TrodAll enc prog W 0 (fun _ => true) true fn.params.toList args.toList ds p →
  Calls prog f args W fun e W' => e = .returned (.bool true) ∧ Below W.heap.size W W'
theorem qif {f : FuncId} {fn : Func} {s : ChangeSpec} {os : Os} (started : os.Started) {H : Type} {enc : TypeId × Value → H} (hw : Walk f fn) (noInit : prog.inits.idxOf? f = none) (hfn : prog.funcs[f]? = some fn)
 (hres : fn.resultTypes = #[4]) (hvars : s.vars = []) (hts : fn.params.toList.all (fun t => prog.readableRec t && decide (t < prog.types.size)) = true)
 (hspec : ∀ ds : List (DataW H), ds.length = fn.params.size → s.fn H ds = { results := [.lit (.bool true)], args := ds })
 (witness : ∃ (w : World) (tape : Tape) (i : Input), w.os = os ∧ (w.forCall tape i).Shaped prog ∧ i.vars = [] ∧ Input.okWide prog (w.forCall tape i) .any w.heap.size f i ∧
  s.pre6 enc prog fn [] false (w.forCall tape i).memory i.args ∧ ({} : Assume).holds prog (lone (Frame.enter prog f i.args .normal) [] (w.forCall tape i))) :
 ReturnsInHanded {} Tryz.checked os f .any (s.pre6 enc prog fn [] false) (s.post enc prog fn false true false false) := by
 refine returnsInHanded_of_change (C := Tryz.checked) qyk started noInit hfn witness ?_; intro W base args ds gs before hval hW hcnd _; have hW' := hW; obtain ⟨p, q, hA, hV, rfl, hfz, hnd⟩ := hW; rw [hvars] at hV; obtain ⟨rfl, rfl⟩ := trodVars_none hV; refine (hw H enc W base args ds p hval hA).mono fun e W' ⟨he, bel⟩ => ?_
 subst he; have hlt : ∀ x ∈ p, x.block < W.heap.size := fun x hx => hW'.lt x (by simp [hx])
 have hl : ds.length = fn.params.size := by rw [qeo _ _ _ _ hA]; simp
 have e1 : s.fn H (ds ++ []) = { results := [.lit (.bool true)], args := ds } := by rw [List.append_nil]; exact hspec ds hl
 have hpp : ∀ t ∈ fn.params.toList, prog.readableRec t = true ∧ t < prog.types.size := fun t ht => by
  have := List.all_eq_true.1 hts t ht; rw [Bool.and_eq_true] at this; exact ⟨this.1, of_decide_eq_true this.2⟩
 refine ⟨_, rfl, ds, [], p ++ [], [], p, [], hW', ?_, ?_, ?_, bel.frame _, fun h => by cases h⟩
 · rw [e1, hres]
   exact trodAll_mk1 (shut_bool underlying4 _)
 · rw [e1]
   exact qjd qmo bel _ _ _ _ hpp hA hlt
 · rw [e1, hvars]
   rfl
end
section
open Go.ChangeShapes Go.WideShapes Go.ChangeAt Go.RowKit
theorem qBt : (Rows.topQuietRow.inPlace == prog.inPlace 6) = true := by kernel_rfl
theorem qBv : (Rows.topQuietRow.unfollowed == prog.unfollowed 6) = true := by kernel_rfl
theorem qBw : (Rows.topQuietRow.recurses == prog.recurses 6) = true := by kernel_rfl
theorem qBu : (Rows.topQuietRow.named == prog.varsNamed 6) = true := by kernel_rfl
theorem qC0 : mapsRowed prog = true := by kernel_rfl
theorem qC3 : (Rows.topQuietRow.plainKeys == prog.plainKeys) = true := by kernel_rfl
theorem qBy : prog.stopsHeard = true := by kernel_rfl
theorem qBz : prog.mayEnter = true := by kernel_rfl
theorem qC2 : (Rows.topQuietRow.lifted == prog.liftsFinal) = true := by kernel_rfl
theorem qC1 : (prog.make == some Rows.topQuietRow.make) = true := by kernel_rfl
theorem qBx : joinedFacts prog 6 Tryz.f6 Rows.topQuietSpec Rows.topQuietRow = true := by
 unfold joinedFacts; repeat' with_reducible refine (Bool.and_eq_true _ _).mpr ⟨?_, ?_⟩
 all_goals first | with_reducible exact qBt | with_reducible exact qBv | with_reducible exact qBw | with_reducible exact qBu | with_reducible exact qmo | with_reducible exact qC0 | with_reducible exact qC3 | with_reducible exact qBy | with_reducible exact qBz | with_reducible exact qC2 | with_reducible exact qC1 | kernel_rfl
end
end Go.Proofs.YtecikkjbnkhhkaaGreat
