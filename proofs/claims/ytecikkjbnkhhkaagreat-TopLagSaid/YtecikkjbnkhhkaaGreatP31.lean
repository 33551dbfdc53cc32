/- A part of the walk. -/
import Derived.Test.YtecikkjbnkhhkaaGreatP29
namespace Go.Proofs.YtecikkjbnkhhkaaGreat
open _root_.Go.Proofs.Tryz
set_option maxHeartbeats 4000000
set_option maxRecDepth 100000
section
open Go.RowKit
section
variable {g:Own8}{w:World}{lo a b t:Nat}{P:qag}{M:qa4}{ty:TypeId}{f:qa5}{d:FrD}
def qv0(M:qa4)(f:qa5)(d:FrD)(M':qa4)(f':qa5)(d':FrD):Prop:=
 (f.call.kind=1/\f.had=true/\M'=M/\f'= {f with phase:=2,piece:=0,bA:=none,bn:=0,bc:=0}/\d'= {d with bs:=[]}) \/
 (f.call.kind=1/\f.had=false/\M'=M/\f'= {f with phase:=6}/\d'=d) \/
 (f.call.kind=3/\f.had=false/\¬f.line<0/\(∃S',qi6 M.S S'/\M'= {M with S:=S'})/\f'= {f with line:= -1,phase:=6}/\d'=d) \/
 (f.call.kind=3/\f.had=false/\f.line<0/\M'=M/\f'= {f with phase:=6}/\d'=d) \/
 (f.call.kind≠1/\(f.call.kind=3->f.had=true)/\f.line<0/\M'=M/\f'= {f with phase:=3}/\d'=d) \/
 (f.call.kind≠1/\(f.call.kind=3->f.had=true)/\¬f.line<0/\M'=M/\f'= {f with phase:=5}/\d'=d)
def hitF(f:qa5):Option qa3->qa5
 |some y=>if y.key=f.call.key then {f with had:=true,old:=y}else {f with had:=false,old:=qak}
 |none=> {f with had:=false,old:=qak}
def FdR(M:qa4)(f:qa5)(d:FrD)(M':qa4)(f':qa5)(d':FrD):Prop:=∃r,qes (M.T (bucket f.call.key)) f.pos f.past r /\
 ((∃y,r=some y/\kl y.key f.call.key=true/\M'=M/\f'= {f with pos:=y.key,past:=true}/\d'=d) \/
  ((∀y,r=some y->kl y.key f.call.key=false)/\qv0 M (hitF f r) d M' f' d'))
def hitB(f:qa5):Option qa3->Bool
 |some y=>y.key.toList==f.call.key.toList
 |none=>false
def farB(f:qa5):Option qa3->Bool
 |some y=>kl y.key f.call.key
 |none=>false
theorem qlp{f:qa5}{r:Option qa3}(h:hitB f r=true):hitF f r= {f with had:=true,old:=r.getD qak}:=by
 cases r with
 |none=>cases h
 |some y=>exact if_pos (qbu (beq_iff_eq.1 h))
theorem qj3{f:qa5}{r:Option qa3}(h:hitB f r=false):hitF f r= {f with had:=false,old:=qak}:=by
 cases r with
 |none=>rfl
 |some y=>exact if_neg (λe=>by rw[hitB,beq_eq_false_iff_ne]at h;exact h (by rw[e]))
theorem WSt.setOld(h:WSt g w lo a P M b t ty f d)(y:qa3):WSt g (((((w.setCell ⟨b,13,none⟩ (.string y.key)).setCell ⟨b,14,none⟩ (.int .u64 (y.id:Int))).setCell ⟨b,15,none⟩ (.int .u64 (y.ver:Int))).setCell ⟨b,16,none⟩ (.int .i64 y.line)).setCell ⟨b,17,none⟩ (.int .i64 y.cls)) lo a P M b t ty {f with old:=y} d:=
 ((((h.set 13 (.string y.key) {f with old:=⟨y.key,f.old.id,f.old.ver,f.old.line,f.old.cls⟩} rfl ⟨rfl,rfl,rfl,rfl⟩).set 14 (.int .u64 (y.id:Int)) {f with old:=⟨y.key,y.id,f.old.ver,f.old.line,f.old.cls⟩} rfl ⟨rfl,rfl,rfl,rfl⟩).set 15 (.int .u64 (y.ver:Int)) {f with old:=⟨y.key,y.id,y.ver,f.old.line,f.old.cls⟩} rfl ⟨rfl,rfl,rfl,rfl⟩).set 16 (.int .i64 y.line) {f with old:=⟨y.key,y.id,y.ver,y.line,f.old.cls⟩} rfl ⟨rfl,rfl,rfl,rfl⟩).set 17 (.int .i64 y.cls) {f with old:=y} rfl ⟨rfl,rfl,rfl,rfl⟩
theorem ExtB.setOld(y:qa3):ExtB lo b g g w (((((w.setCell ⟨b,13,none⟩ (.string y.key)).setCell ⟨b,14,none⟩ (.int .u64 (y.id:Int))).setCell ⟨b,15,none⟩ (.int .u64 (y.ver:Int))).setCell ⟨b,16,none⟩ (.int .i64 y.line)).setCell ⟨b,17,none⟩ (.int .i64 y.cls)):=
 ((((ExtB.set 13 _).trans (ExtB.set 14 _)).trans (ExtB.set 15 _)).trans (ExtB.set 16 _)).trans (ExtB.set 17 _)
theorem qiu(h:WSt g w lo a P M b t ty f d)(hkey:f.call.key.size<=1000000)(hT:(M.T (bucket f.call.key)).length<=1000000):
 Calls prog 182 #[.pointer (some ⟨b,0,none⟩)] w (qal lo a P b t ty (FdR M f d) g w):=by
 have H:=hid h;have c0:=h.c0;have c2:=h.box.c 2 rfl;have c3:=h.box.c 3 rfl;have c9:=h.box.c 9 rfl;have c10:=h.box.c 10 rfl;have c12:=h.box.c 12 rfl;have hl:=h.box.lt;have HC0:=hid (And.intro c0 (And.intro c2 (And.intro c3 (And.intro c9 (And.intro c10 c12)))));have TT:=hid (λW (hW:Below w.heap.size w W)=>qga (h.below hW).ar);have TB:=hid (λW=>qg9 f.call.key W hkey);have HTN:Hid (∀W,Below w.heap.size w W->Calls prog 239 #[.pointer (some ⟨P.tb,0,none⟩),.int .i64 ((bucket f.call.key:Nat):Int),.string f.pos,.bool f.past] W λe w'=>∃(y:qa3) (ok:Bool),e=.returned (.tuple #[.agg #[.string y.key,.int .u64 (y.id:Int),.int .u64 (y.ver:Int),.int .i64 y.line,.int .i64 y.cls],.bool ok])/\(∃r:Option qa3,y=r.getD qak/\ok=r.isSome/\qes (M.T (bucket f.call.key)) f.pos f.past r)/\Below W.heap.size W w'):=hid λW hW=>by
  refine(qh5 (h.below hW).ar.tab (bucket f.call.key) (qb6 _) f.pos f.past hT).mono ?_;rintro e w'⟨r,rfl,hr,hb⟩;exact⟨_,_,rfl,⟨r,rfl,rfl,hr⟩,hb⟩
 clear h;go_enter func182,ntmps182;go_upto_region 1 with fail;go_cut [3,4] (λv3 v4 wx=>∃(p:Nat) (r:Option qa3),v3=.pointer (some ⟨p,0,none⟩)/\v4=.bool r.isSome/\wx.heap[p]? =some (.cells (r.getD qak).enc.toArray 85 (0,0))/\qes (M.T (bucket f.call.key)) f.pos f.past r/\w.heap.size<=p/\Below w.heap.size w wx)
 case first =>
  go_region_held3 (λW=>W.cell? ⟨b,0,none⟩=some (.pointer (some ⟨a,0,none⟩))/\W.cell? ⟨b,2,none⟩=some (.int .i64 f.call.kind)/\W.cell? ⟨b,3,none⟩=some (.string f.call.key)/\W.cell? ⟨b,9,none⟩=some (.string f.pos)/\W.cell? ⟨b,10,none⟩=some (.bool f.past)/\W.cell? ⟨b,12,none⟩=some (.bool f.had)) (first|(with_reducible refine qp1 (W:=w) ?_ hl HC0.out;exact(by with_reducible repeat(first|exact Below.refl _ _|assumption|refine Below.drew ?_|refine qa1 ?_ _|refine Below.alloc ?_ (by first|omega|simp <;> omega) _|refine Below.setCell ?_ (by first|omega|simp <;> omega) _)))|(with_reducible refine qp1 (W:=w) ?_ hl HC0.out;exact qba (by with_reducible repeat(first|exact Below.refl _ _|assumption|refine Below.drew ?_|refine qa1 ?_ _|refine Below.alloc ?_ (by first|omega|simp <;> omega) _|refine Below.setCell ?_ (by first|omega|simp <;> omega) _)) (by first|exact Nat.le_refl _|(simp;done)|(simp;omega)|omega) 0 _ _ _ _ _)|go_keep) (first|(go_at_call 59;refine(TT.out _ ?_).mono ?_;exact(by with_reducible repeat(first|exact Below.refl _ _|assumption|refine Below.drew ?_|refine qa1 ?_ _|refine Below.alloc ?_ (by first|omega|simp <;> omega) _|refine Below.setCell ?_ (by first|omega|simp <;> omega) _));rintro e w1⟨rfl,rfl⟩)|(go_at_call 240;refine(TB.out _).mono ?_;rintro e w2⟨rfl,rfl⟩)|(go_at_call 239;refine(HTN.out _ ?_).mono ?_;exact(by with_reducible repeat(first|exact Below.refl _ _|assumption|refine Below.drew ?_|refine qa1 ?_ _|refine Below.alloc ?_ (by first|omega|simp <;> omega) _|refine Below.setCell ?_ (by first|omega|simp <;> omega) _));rintro e w3⟨y,ok,rfl,hr3,hb3⟩;have HR3:=hid hr3;clear hr3;(try(have hrow3:w3.heap[w.heap.size]? =some (.cells qak.enc.toArray 85 (0,0)):=(hb3.block _ (by simp;done)).trans (by first|exact(qa2 _ _ _).trans (if_pos rfl)|exact(show(World.drew _).heap[_]? =_ from(qa2 _ _ _).trans (if_pos rfl))|exact(show(World.alloc _ _).heap[_]? =_ from(qa2 _ _ _).trans (if_pos (by simp))));have fk0:=frozen_of_row w3 _ 0 _ _ hrow3;have fk1:=frozen_of_row w3 _ 1 _ _ hrow3;have fk2:=frozen_of_row w3 _ 2 _ _ hrow3;have fk3:=frozen_of_row w3 _ 3 _ _ hrow3;have fk4:=frozen_of_row w3 _ 4 _ _ hrow3;have qk0:=cell_of_row w3 _ 0 _ _ _ hrow3;have qk1:=cell_of_row w3 _ 1 _ _ _ hrow3;have qk2:=cell_of_row w3 _ 2 _ _ _ hrow3;have qk3:=cell_of_row w3 _ 3 _ _ _ hrow3;have qk4:=cell_of_row w3 _ 4 _ _ _ hrow3;simp only[qa3.enc,List.getElem?_toArray,List.getElem?_cons_zero,List.getElem?_cons_succ]at qk0 qk1 qk2 qk3 qk4;have hlk3:=qa0 hrow3));have ST3:Below w.heap.size w w3:=(by refine Below.trans ?_ (hb3.mono ?_);exact(by with_reducible repeat(first|exact Below.refl _ _|assumption|refine Below.drew ?_|refine qa1 ?_ _|refine Below.alloc ?_ (by first|omega|simp <;> omega) _|refine Below.setCell ?_ (by first|omega|simp <;> omega) _));(first|exact Nat.le_refl _|(simp;done)|(simp;omega)|omega));have hs3:=ST3.size;clear hb3));all_goals
   obtain⟨r,hry,hro,hrn⟩:=HR3.out;go_wp2_with fail;go_meet;refine⟨_,r,rfl,by rw[hro],?_,hrn,?_,?_⟩
   · rw[<-hry];first|with_reducible exact qgr _ y _|with_reducible exact qhm hrow3 y
   · first|exact Nat.le_refl _|(simp;done)|(simp;omega)|omega
   · first|exact(by with_reducible repeat(first|exact Below.refl _ _|assumption|refine Below.drew ?_|refine qa1 ?_ _|refine Below.alloc ?_ (by first|omega|simp <;> omega) _|refine Below.setCell ?_ (by first|omega|simp <;> omega) _))|exact qba (by with_reducible repeat(first|exact Below.refl _ _|assumption|refine Below.drew ?_|refine qa1 ?_ _|refine Below.alloc ?_ (by first|omega|simp <;> omega) _|refine Below.setCell ?_ (by first|omega|simp <;> omega) _)) (by first|exact Nat.le_refl _|(simp;done)|(simp;omega)|omega) 0 _ _ _ _ _
 obtain⟨p,r,rfl,rfl,hrow,hnx,hpw,hbc⟩:=hcut;obtain⟨w1,hw1⟩:∃x,x=wc:=⟨_,rfl⟩;subst hw1;have hpb:p≠b:=by omega
 have h1:=H.out.below hbc;have H1:=hid h1;have HE1:Hid (ExtB lo b g g w w1):=hid (ExtB.below hbc);have HNX:=hid hnx;have hlx:=qa0 hrow;have k0:=cell_of_row w1 _ 0 _ _ _ hrow;have k1:=cell_of_row w1 _ 1 _ _ _ hrow;have k2:=cell_of_row w1 _ 2 _ _ _ hrow;have k3:=cell_of_row w1 _ 3 _ _ _ hrow;have k4:=cell_of_row w1 _ 4 _ _ _ hrow;simp only[qa3.enc,List.getElem?_toArray,List.getElem?_cons_zero,List.getElem?_cons_succ]at k0 k1 k2 k3 k4;have c0:=h1.c0;have c3:=h1.box.c 3 rfl;have c9:=h1.box.c 9 rfl;have c10:=h1.box.c 10 rfl;have f9:=h1.box.fr 9;have f10:=h1.box.fr 10;have hl:=h1.box.lt;have HROW:=hid (And.intro hrow hpb);clear h1 hrow hnx hbc TT TB HTN HC0 c2 c12 H hpw;go_upto_region 2 with fail;go_cut [41] (λv41 wx=>v41=.bool (farB f r)/\Below w1.heap.size w1 wx)
 case first =>
  cases r with
  |none =>
   rw[show(none:Option qa3).isSome=false from rfl];go_quiet (fail);go_wp2_with fail;go_meet;exact⟨rfl,(by with_reducible repeat(first|exact Below.refl _ _|assumption|refine Below.drew ?_|refine qa1 ?_ _|refine Below.alloc ?_ (by first|omega|simp <;> omega) _|refine Below.setCell ?_ (by first|omega|simp <;> omega) _))⟩
  |some y =>
   rw[show(some y:Option qa3).isSome=true from rfl];rw[show(some y:Option qa3).getD qak=y from rfl]at k0;have HF:Hid (farB f (some y)=Op.bytesLess y.key.toList f.call.key.toList):=hid rfl;go_quiet (fail);go_wp2_with fail;go_meet;exact⟨by rw[HF.out],(by with_reducible repeat(first|exact Below.refl _ _|assumption|refine Below.drew ?_|refine qa1 ?_ _|refine Below.alloc ?_ (by first|omega|simp <;> omega) _|refine Below.setCell ?_ (by first|omega|simp <;> omega) _))⟩
 obtain⟨rfl,hb2⟩:=hcut;obtain⟨w2,hw2⟩:∃x,x=wc:=⟨_,rfl⟩;subst hw2;have h2:=H1.out.below hb2;have H2:=hid h2;have HE2:=hid (HE1.out.trans (.below hb2));have hrow:=qac hb2 hlx HROW.out.1;have hlx:=qa0 hrow;have HROW2:=hid (And.intro hrow HROW.out.2);have f9:=h2.box.fr 9;have f10:=h2.box.fr 10;have f12:=h2.box.fr 12;have f13:=h2.box.fr 13;have f14:=h2.box.fr 14;have f15:=h2.box.fr 15;have f16:=h2.box.fr 16;have f17:=h2.box.fr 17;have c9:=h2.box.c 9 rfl;have c10:=h2.box.c 10 rfl;have c12:=h2.box.c 12 rfl;have c13:=h2.box.c 13 rfl;have c14:=h2.box.c 14 rfl;have c15:=h2.box.c 15 rfl;have c16:=h2.box.c 16 rfl;have c17:=h2.box.c 17 rfl;have hl:=h2.box.lt;clear h2 hrow hb2 HROW H1 HE1 c0 c3 k0 k1 k2 k3 k4;cases hfar:farB f r with
 |true =>
  cases r with
  |none=>cases hfar
  |some y =>
   have HY:=hid (show kl y.key f.call.key=true from hfar);have k0:=cell_of_row w2 _ 0 _ _ _ HROW2.out.1;have k1:=cell_of_row w2 _ 1 _ _ _ HROW2.out.1;have k2:=cell_of_row w2 _ 2 _ _ _ HROW2.out.1;have k3:=cell_of_row w2 _ 3 _ _ _ HROW2.out.1;have k4:=cell_of_row w2 _ 4 _ _ _ HROW2.out.1;simp only[qa3.enc,List.getElem?_toArray,List.getElem?_cons_zero,List.getElem?_cons_succ]at k0 k1 k2 k3 k4;rw[show(some y:Option qa3).getD qak=y from rfl]at k0;clear hfar;go_wp2_with fail;refine bodyPost_ret (v:=.tuple #[]) (by simp[results,results182]) rfl ⟨rfl,M,_,d,⟨some y,HNX.out,.inl ⟨y,rfl,HY.out,rfl,rfl,rfl⟩⟩,g,?_,(HE2.out.trans (ExtB.set 9 _)).trans (ExtB.set 10 _)⟩;exact(H2.out.set 9 (.string y.key) {f with pos:=y.key} rfl ⟨rfl,rfl,rfl,rfl⟩).set 10 (.bool true) {f with pos:=y.key,past:=true} rfl ⟨rfl,rfl,rfl,rfl⟩
 |false =>
  have HF:=hid hfar;clear hfar;go_upto_region 5 with fail;generalize hw3:World.setCell _ _ _=w3;have h3:WSt g w3 lo a P M b t ty {f with had:=false,old:=qak} d:=by rw[<-hw3];exact(H2.out.set 12 (.bool false) {f with had:=false} rfl ⟨rfl,rfl,rfl,rfl⟩).setOld qak
  have e3:ExtB lo b g g w w3:=by rw[<-hw3];exact(HE2.out.trans (ExtB.set 12 (.bool false))).trans (ExtB.setOld qak)
  have hrow:w3.heap[p]? =some (.cells (r.getD qak).enc.toArray 85 (0,0)):=by rw[<-hw3];exact(qco (w:=w2.setCell ⟨b,12,none⟩ (.bool false)) HROW2.out.2 13 (.string qak.key) (.int .u64 (qak.id:Int)) (.int .u64 (qak.ver:Int)) (.int .i64 qak.line) (.int .i64 qak.cls)).trans ((Below.heap_setCell _ _ _ _ HROW2.out.2).trans HROW2.out.1)
  have H3:=hid h3;have HE3:=hid e3;have hlx:=qa0 hrow;have c3:=h3.box.c 3 rfl;have hl:=h3.box.lt;have k0:=cell_of_row w3 _ 0 _ _ _ hrow;have k1:=cell_of_row w3 _ 1 _ _ _ hrow;have k2:=cell_of_row w3 _ 2 _ _ _ hrow;have k3:=cell_of_row w3 _ 3 _ _ _ hrow;have k4:=cell_of_row w3 _ 4 _ _ _ hrow;simp only[qa3.enc,List.getElem?_toArray,List.getElem?_cons_zero,List.getElem?_cons_succ]at k0 k1 k2 k3 k4;have HROW3:=hid (And.intro hrow HROW2.out.2);clear hw3 h3 e3 hrow HROW2 H2 HE2 c9 c10 c12 c13 c14 c15 c16 c17 f9 f10 f12 f13 f14 f15 f16 f17;go_cut [67] (λv67 wx=>v67=.bool (hitB f r)/\Below w3.heap.size w3 wx)
  case first =>
   cases r with
   |none =>
    rw[show(none:Option qa3).isSome=false from rfl];go_quiet (fail);go_wp2_with fail;go_meet;exact⟨rfl,(by with_reducible repeat(first|exact Below.refl _ _|assumption|refine Below.drew ?_|refine qa1 ?_ _|refine Below.alloc ?_ (by first|omega|simp <;> omega) _|refine Below.setCell ?_ (by first|omega|simp <;> omega) _))⟩
   |some y =>
    rw[show(some y:Option qa3).isSome=true from rfl];rw[show(some y:Option qa3).getD qak=y from rfl]at k0;have HB:Hid (hitB f (some y)=(y.key.toList==f.call.key.toList)):=hid rfl;go_quiet (fail);go_wp2_with fail;go_meet;exact⟨by rw[HB.out],(by with_reducible repeat(first|exact Below.refl _ _|assumption|refine Below.drew ?_|refine qa1 ?_ _|refine Below.alloc ?_ (by first|omega|simp <;> omega) _|refine Below.setCell ?_ (by first|omega|simp <;> omega) _))⟩
  obtain⟨rfl,hb4⟩:=hcut;obtain⟨w4,hw4⟩:∃x,x=wc:=⟨_,rfl⟩;subst hw4;have h4:=H3.out.below hb4;have H4:=hid h4;have HE4:=hid (HE3.out.trans (.below hb4));have hrow:=qac hb4 hlx HROW3.out.1;have hlx:=qa0 hrow;have HROW4:=hid (And.intro hrow HROW3.out.2);clear h4 hrow hb4 HROW3 H3 HE3 c3 k0 k1 k2 k3 k4 hl;go_upto_if 67 with fail;go_cut [] (λwx=>WSt g wx lo a P M b t ty (hitF f r) d/\ExtB lo b g g w wx)
  case first =>
   cases hh:hitB f r with
   |false =>
    have HH:=hid hh;clear hh;go_wp2_with fail;go_meet;exact⟨by rw[qj3 HH.out];exact H4.out,HE4.out⟩
   |true =>
    have HH:=hid (qlp hh);clear hh;generalize r.getD qak=y at *;have hrow:=HROW4.out.1;have hpb:=HROW4.out.2;have k0:=cell_of_row w4 _ 0 _ _ _ hrow;have k1:=cell_of_row w4 _ 1 _ _ _ hrow;have k2:=cell_of_row w4 _ 2 _ _ _ hrow;have k3:=cell_of_row w4 _ 3 _ _ _ hrow;have k4:=cell_of_row w4 _ 4 _ _ _ hrow;simp only[qa3.enc,List.getElem?_toArray,List.getElem?_cons_zero,List.getElem?_cons_succ]at k0 k1 k2 k3 k4;have f12:=H4.out.box.fr 12;have f13:=H4.out.box.fr 13;have f14:=H4.out.box.fr 14;have f15:=H4.out.box.fr 15;have f16:=H4.out.box.fr 16;have f17:=H4.out.box.fr 17;have c12:=H4.out.box.c 12 rfl;have c13:=H4.out.box.c 13 rfl;have c14:=H4.out.box.c 14 rfl;have c15:=H4.out.box.c 15 rfl;have c16:=H4.out.box.c 16 rfl;have c17:=H4.out.box.c 17 rfl;have hl:=H4.out.box.lt;go_wp2_with fail;go_region;go_wp2_with fail;go_meet;exact⟨by rw[HH.out];exact((H4.out.set 12 (.bool true) {f with had:=true,old:=qak} rfl ⟨rfl,rfl,rfl,rfl⟩).setOld y).drew,((HE4.out.trans (ExtB.set 12 (.bool true))).trans (ExtB.setOld y)).trans (ExtB.below (Below.refl _ _).drew)⟩
  obtain⟨h5,e5⟩:=hcut;obtain⟨w5,hw5⟩:∃x,x=wc:=⟨_,rfl⟩;subst hw5;have HGO:Hid (∀M' f' d',qv0 M (hitF f r) d M' f' d'->FdR M f d M' f' d'):=hid λM' f' d' hgo=>⟨r,HNX.out,.inr ⟨λy hy=>by have:=HF.out;rw[hy]at this;exact this,hgo⟩⟩
  generalize hitF f r=f5 at *;have H5:=hid h5;have HE5:=hid e5;have c0:=h5.c0;have c2:=h5.box.c 2 rfl;have c7:=h5.box.c 7 rfl;have c12:=h5.box.c 12 rfl;have c18:=h5.box.c 18 rfl;have c20:=h5.box.c 20 rfl;have c21:=h5.box.c 21 rfl;have f7:=h5.box.fr 7;have f18:=h5.box.fr 18;have f20:=h5.box.fr 20;have f21:=h5.box.fr 21;have hl:=h5.box.lt;clear h5 e5 HROW4 H4 HE4 HF HNX;by_cases hk1:f5.call.kind=1
  · have hb1:(f5.call.kind==1)=true:=by rw[hk1];rfl
    have HK1:=hid hk1;clear hk1;rcases Bool.eq_false_or_eq_true f5.had with hh|hh
    · rw[hh]at c12
      have HH:=hid hh;clear hh;go_wp2_with fail;refine bodyPost_ret (v:=.tuple #[]) (by simp[results,results182]) rfl ⟨rfl,M,_,_,HGO.out _ _ _ (.inl ⟨HK1.out,HH.out,rfl,rfl,rfl⟩),g,?_,((HE5.out.trans (ExtB.set 7 _)).trans (ExtB.set 20 _)).trans (ExtB.set 21 _)⟩;exact((H5.out.set 7 (.int .i64 2) {f5 with phase:=2} rfl ⟨rfl,rfl,rfl,rfl⟩).set 20 (.int .i64 0) {f5 with phase:=2,piece:=0} rfl ⟨rfl,rfl,rfl,rfl⟩).noBytes
    · rw[hh]at c12
      have HH:=hid hh;clear hh;go_wp2_with fail;refine bodyPost_ret (v:=.tuple #[]) (by simp[results,results182]) rfl ⟨rfl,M,_,_,HGO.out _ _ _ (.inr (.inl ⟨HK1.out,HH.out,rfl,rfl,rfl⟩)),g,?_,HE5.out.trans (ExtB.set 7 _)⟩;exact H5.out.set 7 (.int .i64 6) {f5 with phase:=6} rfl ⟨rfl,rfl,rfl,rfl⟩
  · have hb1:(f5.call.kind==1)=false:=by rw[beq_eq_false_iff_ne];exact hk1
    have HK1:=hid hk1;clear hk1;obtain⟨v3,hv3⟩:∃v3,v3=((f5.call.kind==3)&& !f5.had):=⟨_,rfl⟩;cases v3 with
    |true =>
     have hv:=hv3.symm;rw[Bool.and_eq_true]at hv;have hb3:=hv.1;have hh:f5.had=false:=by simpa using hv.2
     have HK3:=hid (beq_iff_eq.1 hb3);rw[hh]at c12;have HH:=hid hh;clear hh hv3 hv;by_cases hln:f5.line<0
     · have hge:decide (0<=f5.line)=false:=decide_eq_false (by omega)
       have HL:=hid hln;clear hln;go_wp2_with fail;refine bodyPost_ret (v:=.tuple #[]) (by simp[results,results182]) rfl ⟨rfl,M,_,_,HGO.out _ _ _ (.inr (.inr (.inr (.inl ⟨HK3.out,HH.out,HL.out,rfl,rfl,rfl⟩)))),g,?_,HE5.out.trans (ExtB.set 7 _)⟩;exact H5.out.set 7 (.int .i64 6) {f5 with phase:=6} rfl ⟨rfl,rfl,rfl,rfl⟩
     · have hge:decide (0<=f5.line)=true:=decide_eq_true (by omega)
       have HL:=hid hln;have TG:=hid (qf9 H5.out);clear hln;go_wp2_with fail;refine TG.out.mono ?_;rintro e w6⟨rfl,S',hS,g6,h6,e6⟩;have HS:=hid hS;have H6:=hid h6;have HE6:=hid (HE5.out.trans e6);have c7:=h6.box.c 7 rfl;have f7:=h6.box.fr 7;have hl:=h6.box.lt;clear h6 e6 hS TG;go_wp2_with fail;refine bodyPost_ret (v:=.tuple #[]) (by simp[results,results182]) rfl ⟨rfl,_,_,_,HGO.out _ _ _ (.inr (.inr (.inl ⟨HK3.out,HH.out,Int.not_lt.2 HL.out,⟨S',HS.out,rfl⟩,rfl,rfl⟩))),g6,?_,HE6.out.trans (ExtB.set 7 _)⟩;exact H6.out.set 7 (.int .i64 6) {f5 with line:= -1,phase:=6} rfl ⟨rfl,rfl,rfl,rfl⟩
    |false =>
     have HN3:Hid (f5.call.kind=3->f5.had=true):=hid λe=>by
      rw[e]at hv3;rcases Bool.eq_false_or_eq_true f5.had with hh|hh
      · exact hh
      · rw[hh]at hv3;cases hv3
     have hcs:((f5.call.kind==3)=false)\/((f5.call.kind==3)=true/\f5.had=true):=by
      rcases Bool.eq_false_or_eq_true (f5.call.kind==3)with h3|h3
      · exact .inr ⟨h3,HN3.out (beq_iff_eq.1 h3)⟩
      · exact .inl h3
     clear hv3;rcases hcs with hb3|⟨hb3,hh⟩
     · by_cases hln:f5.line<0
       · have hlt:decide (f5.line<0)=true:=decide_eq_true hln
         have HL:=hid hln;clear hln;go_wp2_with fail;refine bodyPost_ret (v:=.tuple #[]) (by simp[results,results182]) rfl ⟨rfl,M,_,_,HGO.out _ _ _ (.inr (.inr (.inr (.inr (.inl ⟨HK1.out,HN3.out,HL.out,rfl,rfl,rfl⟩))))),g,?_,HE5.out.trans (ExtB.set 7 _)⟩;exact H5.out.set 7 (.int .i64 3) {f5 with phase:=3} rfl ⟨rfl,rfl,rfl,rfl⟩
       · have hlt:decide (f5.line<0)=false:=decide_eq_false hln
         have HL:=hid hln;clear hln;go_wp2_with fail;refine bodyPost_ret (v:=.tuple #[]) (by simp[results,results182]) rfl ⟨rfl,M,_,_,HGO.out _ _ _ (.inr (.inr (.inr (.inr (.inr ⟨HK1.out,HN3.out,Int.not_lt.2 HL.out,rfl,rfl,rfl⟩))))),g,?_,HE5.out.trans (ExtB.set 7 _)⟩;exact H5.out.set 7 (.int .i64 5) {f5 with phase:=5} rfl ⟨rfl,rfl,rfl,rfl⟩
     · rw[hh]at c12
       by_cases hln:f5.line<0
       · have hlt:decide (f5.line<0)=true:=decide_eq_true hln
         have HL:=hid hln;clear hln;go_wp2_with fail;refine bodyPost_ret (v:=.tuple #[]) (by simp[results,results182]) rfl ⟨rfl,M,_,_,HGO.out _ _ _ (.inr (.inr (.inr (.inr (.inl ⟨HK1.out,HN3.out,HL.out,rfl,rfl,rfl⟩))))),g,?_,HE5.out.trans (ExtB.set 7 _)⟩;exact H5.out.set 7 (.int .i64 3) {f5 with phase:=3} rfl ⟨rfl,rfl,rfl,rfl⟩
       · have hlt:decide (f5.line<0)=false:=decide_eq_false hln
         have HL:=hid hln;clear hln;go_wp2_with fail;refine bodyPost_ret (v:=.tuple #[]) (by simp[results,results182]) rfl ⟨rfl,M,_,_,HGO.out _ _ _ (.inr (.inr (.inr (.inr (.inr ⟨HK1.out,HN3.out,Int.not_lt.2 HL.out,rfl,rfl,rfl⟩))))),g,?_,HE5.out.trans (ExtB.set 7 _)⟩;exact H5.out.set 7 (.int .i64 5) {f5 with phase:=5} rfl ⟨rfl,rfl,rfl,rfl⟩
end
end
section
open Go.RowKit
theorem qz7{W W':World}{b:Nat}{v0 v1 v2 v3 v4 v8 v12 v13 v14 v15 v16 v17 v18 v19:Value}(hb:Below W.heap.size W W')(hl:b<W.heap.size)(h:W.cell? ⟨b,0,none⟩=some v0/\W.cell? ⟨b,1,none⟩=some v1/\W.cell? ⟨b,2,none⟩=some v2/\W.cell? ⟨b,3,none⟩=some v3/\W.cell? ⟨b,4,none⟩=some v4/\W.cell? ⟨b,8,none⟩=some v8/\W.cell? ⟨b,12,none⟩=some v12/\W.cell? ⟨b,13,none⟩=some v13/\W.cell? ⟨b,14,none⟩=some v14/\W.cell? ⟨b,15,none⟩=some v15/\W.cell? ⟨b,16,none⟩=some v16/\W.cell? ⟨b,17,none⟩=some v17/\W.cell? ⟨b,18,none⟩=some v18/\W.cell? ⟨b,19,none⟩=some v19):W'.cell? ⟨b,0,none⟩=some v0/\W'.cell? ⟨b,1,none⟩=some v1/\W'.cell? ⟨b,2,none⟩=some v2/\W'.cell? ⟨b,3,none⟩=some v3/\W'.cell? ⟨b,4,none⟩=some v4/\W'.cell? ⟨b,8,none⟩=some v8/\W'.cell? ⟨b,12,none⟩=some v12/\W'.cell? ⟨b,13,none⟩=some v13/\W'.cell? ⟨b,14,none⟩=some v14/\W'.cell? ⟨b,15,none⟩=some v15/\W'.cell? ⟨b,16,none⟩=some v16/\W'.cell? ⟨b,17,none⟩=some v17/\W'.cell? ⟨b,18,none⟩=some v18/\W'.cell? ⟨b,19,none⟩=some v19:=
 have k:∀o,W'.cell? ⟨b,o,none⟩=W.cell? ⟨b,o,none⟩:=λo=>hb.cell (p:=⟨b,o,none⟩) hl
 ⟨(k 0).trans h.1,(k 1).trans h.2.1,(k 2).trans h.2.2.1,(k 3).trans h.2.2.2.1,(k 4).trans h.2.2.2.2.1,(k 8).trans h.2.2.2.2.2.1,(k 12).trans h.2.2.2.2.2.2.1,(k 13).trans h.2.2.2.2.2.2.2.1,(k 14).trans h.2.2.2.2.2.2.2.2.1,(k 15).trans h.2.2.2.2.2.2.2.2.2.1,(k 16).trans h.2.2.2.2.2.2.2.2.2.2.1,(k 17).trans h.2.2.2.2.2.2.2.2.2.2.2.1,(k 18).trans h.2.2.2.2.2.2.2.2.2.2.2.2.1,(k 19).trans h.2.2.2.2.2.2.2.2.2.2.2.2.2⟩
theorem qtn{w:World}{p:Nat}{x:ChgC}{ty:TypeId}(h:w.heap[p]? =some (.cells x.enc.toArray ty (0,0))):∀i (hi:i < [x].length) j v,(ChgC.enc [x][i])[j]? =some v->w.cell? ⟨p,0+i*11+j,none⟩=some v:=λi hi j v hv=>by
 have:i=0:=by simp at hi;exact hi
 subst this
 rw[show 0+0*11+j=j by omega]
 exact cell_of_row w p j _ _ _ h |>.trans (by rw[List.getElem?_toArray];exact hv)
theorem qy0{w:World}{B:Nat}{A:Option Addr}{v:Bool}(h:Arr bitE 1 w B A [v]):∃x off,A=some ⟨x,off,none⟩/\x<B/\w.cell? ⟨x,off,none⟩=some (.bool v):=by
 rcases h with h|⟨x,off,hA,hB,hc⟩
 · cases h
 · exact⟨x,off,hA,hB,by have:=hc 0 (by simp) 0 _ rfl;simpa using this⟩
section
variable {g:Own8}{w:World}{lo a b t:Nat}{P:qag}{M:qa4}{ty:TypeId}{f:qa5}{d:FrD}
def chF(f:qa5):ChgC:=⟨f.call.kind,f.call.key,f.call.val,f.had,f.old,f.line,f.cls⟩
def PubR(M:qa4)(e:Nat)(l:List ChgC)(code:Int)(M':qa4):Prop:=
 (code≠0/\M'=M/\((code=1/\(¬qec l\/∃i,∃h:i<l.length,qoa M l i h))\/(code=8/\(M.now≠e\/∃i,∃h:i<l.length,qby M.T M.Q l[i]=false))\/∃i,∃h:i<l.length,¬qee e l[i])) \/
 (code=0/\qec l/\M.now=e/\(∀i (h:i<l.length),qby M.T M.Q l[i]=true)/\(∀i (h:i<l.length),qi4 M l i h)/\(∀i (h:i<l.length),qee e l[i])/\∃gr,qen e M l M' gr)
def qi5(a:Nat)(P:qag)(M:qa4)(e:Nat)(l:List ChgC)(g:Own8)(w:World)(r:Ending)(w':World):Prop:=
 ∃A n c code M' g',r=.returned (.tuple #[.slice A n c,.int .i64 code])/\PubR M e l code M'/\qa6 g' w' a P M'/\Ext g g' w w'/\(code=0->n=l.length/\Own bitE 4 1 w' w.heap.size A c (l.map hadB)/\qc8 g' 0 A c)
theorem qfr(h:qa6 g w a P M){n th:Nat}(hok:OkA M n th)(hn:n<=40000)(ht:t<th)(e:Nat)(l:List ChgC)(A:Option Addr)(c:Nat)(hA:Arr ChgC.enc 11 w w.heap.size A l)(hAg:l=[]\/∃b off,A=some ⟨b,off,none⟩/\g b=0)(hc:l.length<=c)(hm:c<=9223372036854775807)
 (hsz:∀x∈l,x.key.size<=1000000/\x.val.size<=1000000):Calls prog 248 #[.pointer (some ⟨a,0,none⟩),.int .i64 (t:Int),.int .u64 (e:Int),.slice A l.length c] w (qi5 a P M e l g w):=by
 refine(qn8 h t e l A c (by rw[hok.th.2];exact ht) hA hAg hc hm ((hok.mono (n':=50000) (by omega)).few) (by have:=hok.id;omega) (by have:=hok.ver;omega) hsz (qvy hok hn ht (λx hx=>(hsz x hx).1))).mono ?_;rintro r w' (⟨code,rfl,hb,hcs⟩|⟨A',c',M',gr,g',rfl,h1,h2,h3,h4,h5,h6,h7,h8,h9,h10⟩)
 · have h0:code≠0:=by rcases hcs with⟨h,_⟩|⟨h,_⟩|⟨h,_⟩ <;> omega
   refine⟨none,0,0,code,M,g,rfl,.inl ⟨h0,rfl,?_⟩,h.below hb,.below hb,λe=>absurd e h0⟩;rcases hcs with h|h|h
   · exact .inl h
   · exact .inr (.inl h)
   · exact .inr (.inr h.2)
 · exact⟨A',_,c',0,M',g',rfl,.inr ⟨rfl,h1,h2,h3,h4,h5,gr,h6⟩,h7,h8,λ_=>⟨rfl,h9,h10⟩⟩
def qu9(M:qa4)(f:qa5)(d:FrD)(M':qa4)(f':qa5)(d':FrD):Prop:=d'=d/\∃code M1,PubR M f.ep [chF f] code M1 /\
 ((code=0/\M'=M1/\f'= {f with found:=hadB (chF f),aep:=f.ep,line:= -1,phase:=6}) \/
  (code=8/\M'=M1/\f'= {f with ep:=M1.now,pos:=ByteArray.empty,past:=false,had:=false,old:=qak,phase:=1}) \/
  (code≠0/\code≠8/\(∃S',qi6 M1.S S'/\M'= {M1 with S:=S'})/\f'= {f with line:= -1,code:=code,phase:=6}))
theorem qf2(h:WSt g w lo a P M b t ty f d){n th:Nat}(hok:OkA M n th)(hn:n<=40000)(ht:t<th)(hk:f.call.key.size<=1000000)(hv:f.call.val.size<=1000000):
 Calls prog 186 #[.pointer (some ⟨b,0,none⟩)] w (qal lo a P b t ty (qu9 M f d) g w):=by
 have H:=hid h;have c0:=h.c0;have c1:=h.c1;have c2:=h.box.c 2 rfl;have c3:=h.box.c 3 rfl;have c4:=h.box.c 4 rfl;have c8:=h.box.c 8 rfl;have c12:=h.box.c 12 rfl;have c13:=h.box.c 13 rfl;have c14:=h.box.c 14 rfl;have c15:=h.box.c 15 rfl;have c16:=h.box.c 16 rfl;have c17:=h.box.c 17 rfl;have c18:=h.box.c 18 rfl;have c19:=h.box.c 19 rfl;have hl:=h.box.lt;have HC0:=hid (And.intro c0 (And.intro c1 (And.intro c2 (And.intro c3 (And.intro c4 (And.intro c8 (And.intro c12 (And.intro c13 (And.intro c14 (And.intro c15 (And.intro c16 (And.intro c17 (And.intro c18 c19)))))))))))));have HTP:Hid (∀W p,Below w.heap.size w W->w.heap.size<=p->W.heap[p]? =some (.cells (chF f).enc.toArray 376 (0,0))->Calls prog 248 #[.pointer (some ⟨a,0,none⟩),.int .i64 (t:Int),.int .u64 (f.ep:Int),.slice (some ⟨p,0,none⟩) 1 1] W (qi5 a P M f.ep [chF f] g W)):=hid λW p hW hp hrow =>
  qfr (h.below hW).ar hok hn ht f.ep [chF f] (some ⟨p,0,none⟩) 1 (.inr ⟨p,0,rfl,qa0 hrow,qtn hrow⟩) (.inr ⟨p,0,rfl,h.ar.far p hp⟩) (Nat.le_refl _) (by omega) (λx hx=>by rw[List.mem_singleton.1 hx];exact⟨hk,hv⟩)
 clear h hok;go_enter func186,ntmps186;go_upto_region 1 with fail;go_cut [3,4] (λv3 v4 wx=>∃A m c code M1 g1,v3=.slice A m c/\v4=.int .i64 code/\PubR M f.ep [chF f] code M1/\WSt g1 wx lo a P M1 b t ty f d/\ExtB lo b g g1 w wx/\(code=0->m=1/\Own bitE 4 1 wx w.heap.size A c [hadB (chF f)]))
 case first =>
  go_region_held3 (λW=>W.cell? ⟨b,0,none⟩=some (.pointer (some ⟨a,0,none⟩))/\W.cell? ⟨b,1,none⟩=some (.int .i64 (t:Int))/\W.cell? ⟨b,2,none⟩=some (.int .i64 f.call.kind)/\W.cell? ⟨b,3,none⟩=some (.string f.call.key)/\W.cell? ⟨b,4,none⟩=some (.string f.call.val)/\W.cell? ⟨b,8,none⟩=some (.int .u64 (f.ep:Int))/\W.cell? ⟨b,12,none⟩=some (.bool f.had)/\W.cell? ⟨b,13,none⟩=some (.string f.old.key)/\W.cell? ⟨b,14,none⟩=some (.int .u64 (f.old.id:Int))/\W.cell? ⟨b,15,none⟩=some (.int .u64 (f.old.ver:Int))/\W.cell? ⟨b,16,none⟩=some (.int .i64 f.old.line)/\W.cell? ⟨b,17,none⟩=some (.int .i64 f.old.cls)/\W.cell? ⟨b,18,none⟩=some (.int .i64 f.line)/\W.cell? ⟨b,19,none⟩=some (.int .i64 f.cls)) (first|(with_reducible exact HSK)|(with_reducible refine qz7 (W:=w) ?_ hl HC0.out;(repeat(first|with_reducible exact Below.refl _ _|with_reducible assumption|with_reducible refine Below.drew ?_|with_reducible refine qa1 ?_ _|with_reducible refine Below.alloc ?_ (by first|omega|simp <;> omega) _));done)|go_keep) (first|(go_at_call 248;refine(HTP.out _ _ ?_ ?_ ?_).mono ?_;exact(by with_reducible repeat(first|exact Below.refl _ _|assumption|refine Below.drew ?_|refine qa1 ?_ _|refine Below.alloc ?_ (by first|omega|simp <;> omega) _|refine Below.setCell ?_ (by first|omega|simp <;> omega) _));(first|exact Nat.le_refl _|(simp;done)|omega);(first|exact(qa2 _ _ _).trans (if_pos rfl)|exact(show(World.drew _).heap[_]? =_ from(qa2 _ _ _).trans (if_pos rfl))|exact(show(World.drewN _ _).heap[_]? =_ from(qa2 _ _ _).trans (if_pos rfl)));rintro r w2⟨A,m,c,code,M1,g1,rfl,hpr,A2,E2,hon⟩;have HPR:=hid hpr;have HON:Hid (code=0->m=1/\Own bitE 4 1 w2 w.heap.size A c [hadB (chF f)]):=hid (λe=>⟨(hon e).1,(hon e).2.1.lower (lo':=w.heap.size) (by first|exact Nat.le_refl _|(simp;done)|(simp;omega)|omega)⟩);have HW2:=hid ((H.out.below (by with_reducible repeat(first|exact Below.refl _ _|assumption|refine Below.drew ?_|refine qa1 ?_ _|refine Below.alloc ?_ (by first|omega|simp <;> omega) _|refine Below.setCell ?_ (by first|omega|simp <;> omega) _))).ext A2 E2);have HE2:=hid ((show ExtB lo b g g w _ from ExtB.below (by with_reducible repeat(first|exact Below.refl _ _|assumption|refine Below.drew ?_|refine qa1 ?_ _|refine Below.alloc ?_ (by first|omega|simp <;> omega) _|refine Below.setCell ?_ (by first|omega|simp <;> omega) _))).trans (.of_ext E2));have HSK:=(show w2.cell? ⟨b,0,none⟩=some (.pointer (some ⟨a,0,none⟩))/\w2.cell? ⟨b,1,none⟩=some (.int .i64 (t:Int))/\w2.cell? ⟨b,2,none⟩=some (.int .i64 f.call.kind)/\w2.cell? ⟨b,3,none⟩=some (.string f.call.key)/\w2.cell? ⟨b,4,none⟩=some (.string f.call.val)/\w2.cell? ⟨b,8,none⟩=some (.int .u64 (f.ep:Int))/\w2.cell? ⟨b,12,none⟩=some (.bool f.had)/\w2.cell? ⟨b,13,none⟩=some (.string f.old.key)/\w2.cell? ⟨b,14,none⟩=some (.int .u64 (f.old.id:Int))/\w2.cell? ⟨b,15,none⟩=some (.int .u64 (f.old.ver:Int))/\w2.cell? ⟨b,16,none⟩=some (.int .i64 f.old.line)/\w2.cell? ⟨b,17,none⟩=some (.int .i64 f.old.cls)/\w2.cell? ⟨b,18,none⟩=some (.int .i64 f.line)/\w2.cell? ⟨b,19,none⟩=some (.int .i64 f.cls)from⟨HW2.out.c0,HW2.out.c1,HW2.out.box.c 2 rfl,HW2.out.box.c 3 rfl,HW2.out.box.c 4 rfl,HW2.out.box.c 8 rfl,HW2.out.box.c 12 rfl,HW2.out.box.c 13 rfl,HW2.out.box.c 14 rfl,HW2.out.box.c 15 rfl,HW2.out.box.c 16 rfl,HW2.out.box.c 17 rfl,HW2.out.box.c 18 rfl,HW2.out.box.c 19 rfl⟩);clear hpr hon A2 E2));all_goals
   go_wp2_with fail;go_meet;refine⟨A,m,c,code,M1,g1,rfl,rfl,HPR.out,?_,?_,?_⟩
   · first|exact HW2.out|exact HW2.out.drew|exact HW2.out.drewN _
   · first|exact HE2.out|exact HE2.out.trans (ExtB.below (Below.refl _ _).drew)|exact HE2.out.trans (ExtB.below (qa1 (Below.refl _ _) _))
   · first|exact HON.out|exact λe=>⟨(HON.out e).1,(HON.out e).2.drew⟩|exact λe=>⟨(HON.out e).1,(HON.out e).2.below (by with_reducible repeat(first|exact Below.refl _ _|assumption|refine Below.drew ?_|refine qa1 ?_ _|refine Below.alloc ?_ (by first|omega|simp <;> omega) _|refine Below.setCell ?_ (by first|omega|simp <;> omega) _))⟩
 obtain⟨A,m,c,code,M1,g1,rfl,rfl,hpr,h1,e1,hon⟩:=hcut;obtain⟨w1,hw1⟩:∃x,x=wc:=⟨_,rfl⟩;subst hw1;have HPR:=hid hpr;have H1:=hid h1;have HE1:=hid e1;have HON:=hid hon;clear hpr h1 e1 hon HTP HC0 H c0 c1 c2 c3 c4 c8 c12 c13 c14 c15 c16 c17 c18 c19 hl;by_cases h0:code=0
 · subst h0
   obtain⟨hm1,hown⟩:=HON.out rfl;subst hm1;obtain⟨x,off,rfl,hxl,hx⟩:=qy0 (hown.arr qfd);have c8:=H1.out.box.c 8 rfl;have c7:=H1.out.box.c 7 rfl;have c18:=H1.out.box.c 18 rfl;have c25:=H1.out.box.c 25 rfl;have c29:=H1.out.box.c 29 rfl;have f7:=H1.out.box.fr 7;have f18:=H1.out.box.fr 18;have f25:=H1.out.box.fr 25;have f29:=H1.out.box.fr 29;have hl:=H1.out.box.lt;clear hown HON;go_wp2_with fail;go_region;all_goals
    go_wp2_with fail;refine bodyPost_ret (v:=.tuple #[]) (by simp[results,results186]) rfl ⟨rfl,M1,_,d,⟨rfl,0,M1,HPR.out,.inl ⟨rfl,rfl,rfl⟩⟩,g1,?_,((((HE1.out.trans (ExtB.set 25 _)).trans (ExtB.set 29 _)).trans (ExtB.set 18 _)).trans (ExtB.set 7 _)).trans (ExtB.below (Below.refl _ _).drew)⟩;exact((((H1.out.set 25 (.bool (hadB (chF f))) {f with found:=hadB (chF f)} rfl ⟨rfl,rfl,rfl,rfl⟩).set 29 (.int .u64 (f.ep:Int)) {f with found:=hadB (chF f),aep:=f.ep} rfl ⟨rfl,rfl,rfl,rfl⟩).set 18 (.int .i64 (-1)) {f with found:=hadB (chF f),aep:=f.ep,line:= -1} rfl ⟨rfl,rfl,rfl,rfl⟩).set 7 (.int .i64 6) {f with found:=hadB (chF f),aep:=f.ep,line:= -1,phase:=6} rfl ⟨rfl,rfl,rfl,rfl⟩).drew
 · have hb0:(code==0)=false:=by rw[beq_eq_false_iff_ne];exact h0
   have H0:=hid h0;clear h0 HON;by_cases h8:code=8
   · subst h8
     have c0:=H1.out.c0;have f7:=H1.out.box.fr 7;have f8:=H1.out.box.fr 8;have f9:=H1.out.box.fr 9;have f10:=H1.out.box.fr 10;have f12:=H1.out.box.fr 12;have f13:=H1.out.box.fr 13;have f14:=H1.out.box.fr 14;have f15:=H1.out.box.fr 15;have f16:=H1.out.box.fr 16;have f17:=H1.out.box.fr 17;have c7:=H1.out.box.c 7 rfl;have c8:=H1.out.box.c 8 rfl;have c9:=H1.out.box.c 9 rfl;have c10:=H1.out.box.c 10 rfl;have c12:=H1.out.box.c 12 rfl;have c13:=H1.out.box.c 13 rfl;have c14:=H1.out.box.c 14 rfl;have c15:=H1.out.box.c 15 rfl;have c16:=H1.out.box.c 16 rfl;have c17:=H1.out.box.c 17 rfl;have hl:=H1.out.box.lt;have TC:=hid (qcr H1.out.ar);have TN:=hid (qgy H1.out.ar);clear hb0;go_wp2_with fail;refine TC.out.mono ?_;rintro e w2⟨rfl,rfl⟩;go_wp2_with fail;refine TN.out.mono ?_;rintro e w3⟨rfl,rfl⟩;go_wp2_with fail;refine bodyPost_ret (v:=.tuple #[]) (by simp[results,results186]) rfl ⟨rfl,M1,_,d,⟨rfl,8,M1,HPR.out,.inr (.inl ⟨rfl,rfl,rfl⟩)⟩,g1,?_,(((((HE1.out.trans (ExtB.set 8 _)).trans (ExtB.set 9 _)).trans (ExtB.set 10 _)).trans (ExtB.set 12 _)).trans (ExtB.setOld qak)).trans (ExtB.set 7 _)⟩;exact(((((H1.out.set 8 (.int .u64 (M1.now:Int)) {f with ep:=M1.now} rfl ⟨rfl,rfl,rfl,rfl⟩).set 9 (.string ByteArray.empty) {f with ep:=M1.now,pos:=ByteArray.empty} rfl ⟨rfl,rfl,rfl,rfl⟩).set 10 (.bool false) {f with ep:=M1.now,pos:=ByteArray.empty,past:=false} rfl ⟨rfl,rfl,rfl,rfl⟩).set 12 (.bool false) {f with ep:=M1.now,pos:=ByteArray.empty,past:=false,had:=false} rfl ⟨rfl,rfl,rfl,rfl⟩).setOld qak).set 7 (.int .i64 1) {f with ep:=M1.now,pos:=ByteArray.empty,past:=false,had:=false,old:=qak,phase:=1} rfl ⟨rfl,rfl,rfl,rfl⟩
   · have hb8:(code==8)=false:=by rw[beq_eq_false_iff_ne];exact h8
     have H8:=hid h8;have c0:=H1.out.c0;have hl:=H1.out.box.lt;have TG:=hid (qf9 H1.out);clear h8;go_wp2_with fail;refine TG.out.mono ?_;rintro e w2⟨rfl,S',hS,g2,h2,e2⟩;have HS:=hid hS;have HE2:=hid (HE1.out.trans e2);have TF:=hid (qcb h2 code);clear hS e2 h2 TG;go_wp2_with fail;refine TF.out.mono ?_;rintro e w3⟨rfl,hto⟩;have HTO:=hid hto;clear hto TF;go_wp2_with fail;refine bodyPost_ret (v:=.tuple #[]) (by simp[results,results186]) rfl ⟨rfl,_,_,d,⟨rfl,code,M1,HPR.out,.inr (.inr ⟨H0.out,H8.out,⟨S',HS.out,rfl⟩,rfl⟩)⟩,WTo.trans HE2.out HTO.out⟩
end
end
end Go.Proofs.YtecikkjbnkhhkaaGreat
