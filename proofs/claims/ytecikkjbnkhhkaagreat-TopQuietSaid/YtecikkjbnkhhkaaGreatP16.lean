/- A part of the walk. -/
import Derived.Test.YtecikkjbnkhhkaaGreatP13
import Derived.Test.YtecikkjbnkhhkaaGreatP14
import Derived.Lib.BufferRead
import Derived.Lib.SlBytesRow
import Derived.OpenShut
import Derived.ProofKit
namespace Go.Proofs.YtecikkjbnkhhkaaGreat
open _root_.Go.Proofs.Tryz
set_option maxHeartbeats 2000000
set_option maxRecDepth 100000
section
open Go.RowKit
structure ChgC where
 kind : Int
 key : ByteArray
 val : ByteArray
 had : Bool
 old : qa3
 line : Int
 cls : Int
def ChgC.enc (x : ChgC) : List Value := [.int .i64 x.kind, .string x.key, .string x.val, .bool x.had, .string x.old.key, .int .u64 (x.old.id : Int), .int .u64 (x.old.ver : Int), .int .i64 x.old.line, .int .i64 x.old.cls, .int .i64 x.line, .int .i64 x.cls]
theorem ChgC.enc_len (x : ChgC) : x.enc.length = 11 := rfl
theorem ChgC.enc_one (x : ChgC) : ∀ u ∈ x.enc, u.oneCell' = true := by
 intro u hu; simp only [ChgC.enc, List.mem_cons, List.not_mem_nil, or_false] at hu; rcases hu with rfl | rfl | rfl | rfl | rfl | rfl | rfl | rfl | rfl | rfl | rfl <;> rfl
def ChgC.v (x : ChgC) : Value := .agg x.enc.toArray
def qcf (x : ChgC) : Bool := x.kind == 2 || x.kind == 3
def qbv (x : ChgC) : Bool := x.kind != 3 || x.had
theorem qdf (x : ChgC) (w : World) : Calls prog 338 #[x.v] w fun e w' => e = .returned (.bool (qcf x)) ∧ Below w.heap.size w w' := by
 obtain ⟨kind, key, val, had, old, line, cls⟩ := x; unfold ChgC.v ChgC.enc; go_enter func338, ntmps338; go_wp2; all_goals (go_ret; exact ⟨qc9 (by simp [qcf, *]), (by repeat (first | exact Below.refl _ _ | assumption | refine Below.drew ?_ | refine qa1 ?_ _ | refine Below.alloc ?_ (by first | omega | simp <;> omega) _ | refine Below.setCell ?_ (by first | omega | simp <;> omega) _))⟩)
theorem qf4 (x : ChgC) (w : World) : Calls prog 308 #[x.v] w fun e w' => e = .returned (.bool (qbv x)) ∧ Below w.heap.size w w' := by
 obtain ⟨kind, key, val, had, old, line, cls⟩ := x; unfold ChgC.v ChgC.enc; go_enter func308, ntmps308; go_wp2; all_goals (go_ret; exact ⟨qc9 (by simp [qbv, *]), (by repeat (first | exact Below.refl _ _ | assumption | refine Below.drew ?_ | refine qa1 ?_ _ | refine Below.alloc ?_ (by first | omega | simp <;> omega) _ | refine Below.setCell ?_ (by first | omega | simp <;> omega) _))⟩)
def qca (x : ChgC) (id ver e : Nat) : BlkC :=
 if x.kind = 2 then ⟨x.cls, 1, id, ver, e, x.key, x.val⟩ else if x.kind = 4 then ⟨x.cls, 2, id, ver, e, ByteArray.empty, x.val⟩ else ⟨0, 3, id, ver, e, ByteArray.empty, ByteArray.empty⟩
theorem qoz (x : ChgC) (id ver e : Nat) (w : World) : Calls prog 343 #[x.v, .int .u64 (id : Int), .int .u64 (ver : Int), .int .u64 (e : Int)] w fun r w' => r = .returned (qca x id ver e).v ∧ Below w.heap.size w w' := by
 obtain ⟨kind, key, val, had, old, line, cls⟩ := x; unfold ChgC.v ChgC.enc; by_cases h2 : kind = 2
 · have hl : qca ⟨kind, key, val, had, old, line, cls⟩ id ver e = ⟨cls, 1, id, ver, e, key, val⟩ := if_pos h2
   rw [hl, h2]; clear hl h2; go_enter func343, ntmps343; go_upto_region 5 with fail; go_region; all_goals
    go_wp2_with fail; refine bodyPost_ret (v := (⟨cls, 1, id, ver, e, key, val⟩ : BlkC).v) (by simp [results, results343, go_sem, BlkC.v, BlkC.enc]) rfl ⟨rfl, (by repeat (first | exact Below.refl _ _ | assumption | refine Below.drew ?_ | refine qa1 ?_ _ | refine Below.alloc ?_ (by first | omega | simp <;> omega) _ | refine Below.setCell ?_ (by first | omega | simp <;> omega) _))⟩
 by_cases h4 : kind = 4
 · have hl : qca ⟨kind, key, val, had, old, line, cls⟩ id ver e = ⟨cls, 2, id, ver, e, ByteArray.empty, val⟩ := by rw [qca, if_neg h2, if_pos h4]
   rw [hl, h4]; clear hl h2 h4; go_enter func343, ntmps343; go_upto_region 7 with fail; go_region; all_goals
    go_wp2_with fail; refine bodyPost_ret (v := (⟨cls, 2, id, ver, e, ByteArray.empty, val⟩ : BlkC).v) (by simp [results, results343, go_sem, BlkC.v, BlkC.enc]; rfl) rfl ⟨rfl, (by repeat (first | exact Below.refl _ _ | assumption | refine Below.drew ?_ | refine qa1 ?_ _ | refine Below.alloc ?_ (by first | omega | simp <;> omega) _ | refine Below.setCell ?_ (by first | omega | simp <;> omega) _))⟩
 · have hl : qca ⟨kind, key, val, had, old, line, cls⟩ id ver e = ⟨0, 3, id, ver, e, ByteArray.empty, ByteArray.empty⟩ := by rw [qca, if_neg h2, if_neg h4]
   rw [hl]; clear hl; go_enter func343, ntmps343; go_wp2_with fail; refine bodyPost_ret (v := (⟨0, 3, id, ver, e, ByteArray.empty, ByteArray.empty⟩ : BlkC).v) (by simp [results, results343, go_sem, BlkC.v, BlkC.enc]; rfl) rfl ⟨rfl, (by repeat (first | exact Below.refl _ _ | assumption | refine Below.drew ?_ | refine qa1 ?_ _ | refine Below.alloc ?_ (by first | omega | simp <;> omega) _ | refine Below.setCell ?_ (by first | omega | simp <;> omega) _))⟩
section
variable {g : Own8} {w : World} {a : Nat} {P : qag} {M : qa4}
theorem qnb (h : qa6 g w a P M) : Calls prog 342 #[.pointer (some ⟨a, 0, none⟩)] w fun e w' => e = .returned (.tuple #[.int .u64 (M.id : Int), .int .u64 (M.ver : Int)]) ∧ ∃ n, w' = w.drewN n := by
 have q8 := h.cells.2.2.2.2.2.2.2.2.1; have q9 := h.cells.2.2.2.2.2.2.2.2.2.1; have hl := qa0 h.box.1; clear h; go_enter func342, ntmps342; go_upto_region 3 with fail; have L8 := fun q => qe7 a 8 (M.id : Int) (w.drewN q) q8 hl
 have L9 := fun q => qe7 a 9 (M.ver : Int) (w.drewN q) q9 hl
 go_quiet (first | exact Calls.quiet_of_same (L8 _) | exact Calls.quiet_of_same (L9 _)); go_wp2_with fail; go_ret2; exact ⟨rfl, _, rfl⟩
end
end
section
open Go.ChangeShapes Go.WideShapes Go.ChangeAt Go.RowKit
theorem qyk : ownKnob prog.godebug = none := by kernel_rfl
theorem qmo : laidOutB prog = true := by kernel_rfl
theorem qjd {H : Type} {enc : TypeId × Value → H} {P : Program} (hl : laidOutB P = true) {W W' : World} (hb : Below W.heap.size W W') :
 ∀ (ts : List TypeId) (vs : List Value) (ds : List (DataW H)) (ps : List MemPlace), (∀ t ∈ ts, P.readableRec t = true ∧ t < P.types.size) →
  DataW.TrodAll enc P W 0 (fun _ => true) true ts vs ds ps → (∀ x ∈ ps, x.block < W.heap.size) → DataW.TrodAll enc P W' 0 (fun b => decide (b < W.heap.size)) true ts vs ds ps
 | [], [], [], ps, _, h, _ => h
 | t :: ts, v :: vs, d :: ds, ps, ht, ⟨p, q, h0, h1, e⟩, hp => by
  subst e
  exact ⟨p, q, Below.trod hl (ht t (by simp)).1 (ht t (by simp)).2 h0 hb fun x hx => hp x (by simp [hx]),
   qjd hl hb ts vs ds q (fun t' h' => ht t' (by simp [h'])) h1 fun x hx => hp x (by simp [hx]), rfl⟩
 | [], [], _ :: _, _, _, h, _ => absurd h (by simp [DataW.TrodAll])
 | [], _ :: _, _, _, _, h, _ => absurd h (by simp [DataW.TrodAll])
 | _ :: _, [], _, _, _, h, _ => absurd h (by simp [DataW.TrodAll])
 | _ :: _, _ :: _, [], _, _, h, _ => absurd h (by simp [DataW.TrodAll])
theorem qeo {H : Type} {enc : TypeId × Value → H} {P : Program} {W : World} {b : Nat} {sp : Nat → Bool} {hd : Bool} :
 ∀ (ts : List TypeId) (vs : List Value) (ds : List (DataW H)) (ps : List MemPlace), DataW.TrodAll enc P W b sp hd ts vs ds ps → ds.length = ts.length
 | [], [], [], _, _ => rfl
 | t :: ts, v :: vs, d :: ds, _, ⟨p, q, _, h1, _⟩ => by simp [qeo ts vs ds q h1]
 | [], [], _ :: _, _, h => absurd h (by simp [DataW.TrodAll])
 | [], _ :: _, _, _, h => absurd h (by simp [DataW.TrodAll])
 | _ :: _, [], _, _, h => absurd h (by simp [DataW.TrodAll])
 | _ :: _, _ :: _, [], _, h => absurd h (by simp [DataW.TrodAll])
def Walk (f : FuncId) (fn : Func) : Prop :=
 ∀ (H : Type) (enc : TypeId × Value → H) (W : World) (base : Nat) (args : Array Value) (ds : List (DataW H)) (p : List MemPlace),
  (∀ (j : Nat) t v, fn.params[j]? = some t → args[j]? = some v → Value.okWide prog W .any base t v) →
  DataW.TrodAll enc prog W 0 (fun _ => true) true fn.params.toList args.toList ds p →
  Calls prog f args W fun e W' => e = .returned (.bool true) ∧ Below W.heap.size W W'
theorem qif {f : FuncId} {fn : Func} {s : ChangeSpec} {os : Os} (started : os.Started) {H : Type} {enc : TypeId × Value → H} (hw : Walk f fn) (noInit : prog.inits.idxOf? f = none) (hfn : prog.funcs[f]? = some fn)
 (hres : fn.resultTypes = #[4]) (hvars : s.vars = []) (hts : fn.params.toList.all (fun t => prog.readableRec t && decide (t < prog.types.size)) = true)
 (hspec : ∀ ds : List (DataW H), ds.length = fn.params.size → s.fn H ds = { results := [.lit (.bool true)], args := ds })
 (witness : ∃ (w : World) (tape : Tape) (i : Input), w.os = os ∧ (w.forCall tape i).Shaped prog ∧ i.vars = [] ∧ Input.okWide prog (w.forCall tape i) .any w.heap.size f i ∧
  s.pre6 enc prog fn [] false (w.forCall tape i).memory i.args ∧ ({} : Assume).holds prog (lone (Frame.enter prog f i.args .normal) [] (w.forCall tape i))) :
 ReturnsInHanded {} Tryz.checked os f .any (s.pre6 enc prog fn [] false) (s.post enc prog fn false true false false) := by
 refine returnsInHanded_of_change (C := Tryz.checked) qyk started noInit hfn witness ?_; intro W base args ds gs before hval hW hcnd _; have hW' := hW; obtain ⟨p, q, hA, hV, rfl, hfz, hnd⟩ := hW; rw [hvars] at hV; obtain ⟨rfl, rfl⟩ := trodVars_none hV; refine (hw H enc W base args ds p hval hA).mono fun e W' ⟨he, bel⟩ => ?_
 subst he; have hlt : ∀ x ∈ p, x.block < W.heap.size := fun x hx => hW'.lt x (by simp [hx])
 have hl : ds.length = fn.params.size := by rw [qeo _ _ _ _ hA]; simp
 have e1 : s.fn H (ds ++ []) = { results := [.lit (.bool true)], args := ds } := by rw [List.append_nil]; exact hspec ds hl
 have hpp : ∀ t ∈ fn.params.toList, prog.readableRec t = true ∧ t < prog.types.size := fun t ht => by
  have := List.all_eq_true.1 hts t ht; rw [Bool.and_eq_true] at this; exact ⟨this.1, of_decide_eq_true this.2⟩
 refine ⟨_, rfl, ds, [], p ++ [], [], p, [], hW', ?_, ?_, ?_, bel.frame _, fun h => by cases h⟩
 · rw [e1, hres]
   exact trodAll_mk1 (shut_bool underlying4 _)
 · rw [e1]
   exact qjd qmo bel _ _ _ _ hpp hA hlt
 · rw [e1, hvars]
   rfl
end
end Go.Proofs.YtecikkjbnkhhkaaGreat
