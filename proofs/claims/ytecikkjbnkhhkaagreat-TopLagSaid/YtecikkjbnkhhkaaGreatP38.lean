/- A part of the walk. -/
import Derived.Test.YtecikkjbnkhhkaaGreatP33
namespace Go.Proofs.YtecikkjbnkhhkaaGreat
open _root_.Go.Proofs.Tryz
set_option maxHeartbeats 4000000
set_option maxRecDepth 100000
open Go.RowKit
theorem qy6{W W':World}{b q i0 i1 i2 i3:Nat}{v0 v1 v2 v3:Value}(hb:Below W.heap.size W W')(h0:b<W.heap.size)(h1:q<W.heap.size)
 (h:W.cell? ⟨b,i0,none⟩=some v0/\W.cell? ⟨b,i1,none⟩=some v1/\W.cell? ⟨b,i2,none⟩=some v2/\W.cell? ⟨q,i3,none⟩=some v3):
 W'.cell? ⟨b,i0,none⟩=some v0/\W'.cell? ⟨b,i1,none⟩=some v1/\W'.cell? ⟨b,i2,none⟩=some v2/\W'.cell? ⟨q,i3,none⟩=some v3:=
 have k:∀x o,x<W.heap.size->W'.cell? ⟨x,o,none⟩=W.cell? ⟨x,o,none⟩:=λx o hx=>hb.cell (p:=⟨x,o,none⟩) hx
 ⟨(k _ _ h0).trans h.1,(k _ _ h0).trans h.2.1,(k _ _ h0).trans h.2.2.1,(k _ _ h1).trans h.2.2.2⟩
section
variable {g:Own8}{w w':World}{lo a b t:Nat}{P:qag}{M:qa4}{ty:TypeId}{f:qa5}{d:FrD}
theorem WSt.setPart'{pb po i:Nat}{x:qas}(h:WSt g w lo a P M b t ty f {d with ps:=d.ps.set i x})(hA:f.pA=some ⟨pb,po,none⟩)(hi:i<d.ps.length){m:Nat}(hm:m<8)(v:Value)(x':qas)(hx:(qas.enc x).set m v=qas.enc x'):
 WSt g (w.setCell ⟨pb,po+i*8+m,none⟩ v) lo a P M b t ty f {d with ps:=d.ps.set i x'}/\ExtB lo b g g w (w.setCell ⟨pb,po+i*8+m,none⟩ v):=by
 have hi':i<(d.ps.set i x).length:=by rw[List.length_set];exact hi
 have hgi:(d.ps.set i x)[i]=x:=by simp
 have z:=h.setPart hA hi' hm v x' (by rw[hgi];exact hx);have e:(d.ps.set i x).set i x'=d.ps.set i x':=List.set_set ..;refine⟨?_,z.2⟩;have z1:=z.1;simp only[e]at z1;exact z1
def qgt(w:World)(pb o:Nat)(v:Bool)(y:qa3):World:=(((((w.setCell ⟨pb,o,none⟩ (.bool v)).setCell ⟨pb,o+1,none⟩ (.string y.key)).setCell ⟨pb,o+2,none⟩ (.int .u64 (y.id:Int))).setCell ⟨pb,o+3,none⟩ (.int .u64 (y.ver:Int))).setCell ⟨pb,o+4,none⟩ (.int .i64 y.line)).setCell ⟨pb,o+5,none⟩ (.int .i64 y.cls)
theorem qdr{w:World}{pb o j:Nat}{v:Bool}{y:qa3}(hj:j≠pb):(qgt w pb o v y).heap[j]? =w.heap[j]? :=by
 unfold qgt;rw[Below.heap_setCell _ _ _ _ hj,Below.heap_setCell _ _ _ _ hj,Below.heap_setCell _ _ _ _ hj,Below.heap_setCell _ _ _ _ hj,Below.heap_setCell _ _ _ _ hj,Below.heap_setCell _ _ _ _ hj]
theorem WSt.setHit{pb po i:Nat}{x:qas}(h:WSt g w lo a P M b t ty f {d with ps:=d.ps.set i x})(hA:f.pA=some ⟨pb,po,none⟩)(hi:i<d.ps.length)(v:Bool)(y:qa3):
 WSt g (qgt w pb (po+i*8) v y) lo a P M b t ty f {d with ps:=d.ps.set i {x with had:=v,old:=y}}/\ExtB lo b g g w (qgt w pb (po+i*8) v y):=by
 have z0:=h.setPart' hA hi (m:=0) (by omega) (.bool v) {x with had:=v} rfl;have z1:=z0.1.setPart' hA hi (m:=1) (by omega) (.string y.key) {x with had:=v,old:={x.old with key:=y.key}} rfl;have z2:=z1.1.setPart' hA hi (m:=2) (by omega) (.int .u64 (y.id:Int)) {x with had:=v,old:={x.old with key:=y.key,id:=y.id}} rfl;have z3:=z2.1.setPart' hA hi (m:=3) (by omega) (.int .u64 (y.ver:Int)) {x with had:=v,old:={x.old with key:=y.key,id:=y.id,ver:=y.ver}} rfl;have z4:=z3.1.setPart' hA hi (m:=4) (by omega) (.int .i64 y.line) {x with had:=v,old:={x.old with key:=y.key,id:=y.id,ver:=y.ver,line:=y.line}} rfl;have z5:=z4.1.setPart' hA hi (m:=5) (by omega) (.int .i64 y.cls) {x with had:=v,old:=y} rfl;exact⟨z5.1,((((z0.2.trans z1.2).trans z2.2).trans z3.2).trans z4.2).trans z5.2⟩
theorem qjt{α:Type}{l:List α}{i:Nat}(hi:i<l.length){x:α}(hx:l[i]=x):l.set i x=l:=by
 rw[<-hx];exact List.set_getElem_self hi
def hitP(pt:qas)(c:qa7):Option qa3->qas
 |some y=>if y.key=c.key then {pt with had:=true,old:=y}else {pt with had:=false,old:=qak}
 |none=> {pt with had:=false,old:=qak}
def qqa(c:qa7):Option qa3->Bool
 |some y=>y.key.toList==c.key.toList
 |none=>false
def qze(c:qa7):Option qa3->Bool
 |some y=>kl y.key c.key
 |none=>false
theorem qsx{pt:qas}{c:qa7}{r:Option qa3}(h:qqa c r=true):hitP pt c r= {pt with had:=true,old:=r.getD qak}:=by
 cases r with
 |none=>cases h
 |some y=>exact if_pos (qbu (beq_iff_eq.1 h))
theorem qq9{pt:qas}{c:qa7}{r:Option qa3}(h:qqa c r=false):hitP pt c r= {pt with had:=false,old:=qak}:=by
 cases r with
 |none=>rfl
 |some y=>exact if_neg (λe=>by rw[qqa,e]at h;simp at h)
def HitP(M:qa4)(f:qa5)(c:qa7)(pt pt':qas):Prop:=(c.kind=4/\pt'=pt)\/(c.kind≠4/\∃r,qes (M.T (bucket c.key)) f.pos f.past r/\(∀y,r=some y->kl y.key c.key=false)/\pt'=hitP pt c r)
def qBe(M:qa4)(f:qa5)(d:FrD)(c:qa7)(pt:qas)(i:Nat)(M':qa4)(f':qa5)(d':FrD):Prop:=M'=M /\
 ((c.kind≠4/\d'=d/\∃y,qes (M.T (bucket c.key)) f.pos f.past (some y)/\kl y.key c.key=true/\f'= {f with pos:=y.key,past:=true}) \/
  (∃pt',HitP M f c pt pt'/\d'= {d with ps:=d.ps.set i pt'} /\
   (((0<=pt'.line\/(c.kind=3/\pt'.had=false))/\f'= {f with at':=((i+1:Nat):Int),pos:=ByteArray.empty,past:=false,phase:=if i+1=f.call.gn then 5 else 1}) \/
    (pt'.line<0/\(c.kind=3->pt'.had=true)/\f'= {f with phase:=3}))))
theorem qqf(h:WSt g w lo a P M b t ty f d)(i:Nat)(hat:f.at'=(i:Int))(hib:i<=1000)(hg:i<d.gr.length)(hp:i<d.ps.length)(hkey:d.gr[i].key.size<=1000000)(hT:(M.T (bucket d.gr[i].key)).length<=1000000):
 Calls prog 201 #[.pointer (some ⟨b,0,none⟩)] w (qal lo a P b t ty (qBe M f d d.gr[i] d.ps[i] i) g w):=by
 have H:=hid h;have HAT:=hid hat;have TN:=hid (qhq h i hat hg hp);have hl:=h.box.lt;go_enter func201,ntmps201;go_wp2_with fail;refine TN.out.mono ?_;rintro e w1⟨pb,po,hA,rfl,hb1⟩;have hpw0:=(h.part hA hp).1;rw[show qbz d.gr[i]=.agg #[.int .i64 d.gr[i].kind,.string d.gr[i].key,.string d.gr[i].val,.string d.gr[i].tx,.slice d.gr[i].gA d.gr[i].gn d.gr[i].gc]from rfl];generalize hcc:d.gr[i]=c at *;generalize hpt:d.ps[i]=pt at *;have HCC:=hid hcc;have HPT:=hid hpt;have HPA:=hid hA;have HHP:=hid hp;go_upto_region 2 with fail;generalize hw2:World.alloc _ _=w2;obtain⟨q,hq⟩:∃q,q=w1.heap.size:=⟨_,rfl⟩;have R2:w2.heap[q]? =some (.cells c.enc.toArray 40 (0,0)):=by rw[<-hw2,hq];exact(qa2 _ _ _).trans (if_pos rfl)
 have b2:Below w.heap.size w w2:=by rw[<-hw2];exact hb1.alloc hb1.size _
 rw[<-hq];have h2:=H.out.below b2;have q0:w2.cell? ⟨q,0,none⟩=some (.int .i64 c.kind):=cell_of_row w2 _ 0 _ _ _ R2;have hql:=qa0 R2;have hqb:q≠b:=by have:=hb1.size;omega
 have hqp:q≠pb:=by have:=hb1.size;omega
 have hpw2:pb<w2.heap.size:=by have:=b2.size;omega
 have HGQ:=hid (h.ar.far q (by have:=hb1.size;omega));have HRQ:=hid R2;have H2:=hid h2;have HE2:Hid (ExtB lo b g g w w2):=hid (ExtB.below b2);clear h h2 TN hw2 R2 b2 hb1 hcc hpt hq hA hat hl hpw0;go_upto_if 17 with fail;go_cut [] (λwx=>∃pt',HitP M f c pt pt'/\WSt g wx lo a P M b t ty f {d with ps:=d.ps.set i pt'}/\ExtB lo b g g w wx/\wx.heap[q]? =some (.cells c.enc.toArray 40 (0,0)))
 case first =>
  by_cases hk4:c.kind=4
  · have hb4:(c.kind != 4)=false:=by rw[bne_eq_false_iff_eq];exact hk4
    have HK4:=hid hk4;clear hk4;go_wp2_with fail;go_meet;refine⟨pt,.inl ⟨HK4.out,rfl⟩,?_,HE2.out,HRQ.out⟩;rw[qjt HHP.out HPT.out];exact H2.out
  · have hb4:(c.kind != 4)=true:=by rw[bne_iff_ne];exact hk4
    have HK4:=hid hk4;clear hk4;have c0:=H2.out.c0;have c9:=H2.out.box.c 9 rfl;have c10:=H2.out.box.c 10 rfl;have q1:w2.cell? ⟨q,1,none⟩=some (.string c.key):=cell_of_row w2 _ 1 _ _ _ HRQ.out;have hl:=H2.out.box.lt;have HC0:=hid (And.intro c0 (And.intro c9 (And.intro c10 q1)));have TT:=hid (λW (hW:Below w2.heap.size w2 W)=>qga (H2.out.below hW).ar);have TB:=hid (λW=>qg9 c.key W hkey);have HTN:Hid (∀W,Below w2.heap.size w2 W->Calls prog 239 #[.pointer (some ⟨P.tb,0,none⟩),.int .i64 ((bucket c.key:Nat):Int),.string f.pos,.bool f.past] W λe w'=>∃(y:qa3) (ok:Bool),e=.returned (.tuple #[.agg #[.string y.key,.int .u64 (y.id:Int),.int .u64 (y.ver:Int),.int .i64 y.line,.int .i64 y.cls],.bool ok])/\(∃r:Option qa3,y=r.getD qak/\ok=r.isSome/\qes (M.T (bucket c.key)) f.pos f.past r)/\Below W.heap.size W w'):=hid λW hW=>by
     refine(qh5 (H2.out.below hW).ar.tab (bucket c.key) (qb6 _) f.pos f.past hT).mono ?_;rintro e w'⟨r,rfl,hr,hb⟩;exact⟨_,_,rfl,⟨r,rfl,rfl,hr⟩,hb⟩
    go_upto_region 3 with fail;go_cut [5,6] (λv5 v6 wx=>∃(p:Nat) (r:Option qa3),v5=.pointer (some ⟨p,0,none⟩)/\v6=.bool r.isSome/\wx.heap[p]? =some (.cells (r.getD qak).enc.toArray 85 (0,0))/\qes (M.T (bucket c.key)) f.pos f.past r/\w2.heap.size<=p/\Below w2.heap.size w2 wx)
    case first =>
     go_region_held3 (λW=>W.cell? ⟨b,0,none⟩=some (.pointer (some ⟨a,0,none⟩))/\W.cell? ⟨b,9,none⟩=some (.string f.pos)/\W.cell? ⟨b,10,none⟩=some (.bool f.past)/\W.cell? ⟨q,1,none⟩=some (.string c.key)) (first|(with_reducible refine qy6 (W:=w2) ?_ hl hql HC0.out;exact(by with_reducible repeat(first|exact Below.refl _ _|assumption|refine Below.drew ?_|refine qa1 ?_ _|refine Below.alloc ?_ (by first|omega|simp <;> omega) _|refine Below.setCell ?_ (by first|omega|simp <;> omega) _)))|(with_reducible refine qy6 (W:=w2) ?_ hl hql HC0.out;exact qba (by with_reducible repeat(first|exact Below.refl _ _|assumption|refine Below.drew ?_|refine qa1 ?_ _|refine Below.alloc ?_ (by first|omega|simp <;> omega) _|refine Below.setCell ?_ (by first|omega|simp <;> omega) _)) (by first|exact Nat.le_refl _|(simp;done)|(simp;omega)|omega) 0 _ _ _ _ _)|go_keep) (first|(go_at_call 59;refine(TT.out _ ?_).mono ?_;exact(by with_reducible repeat(first|exact Below.refl _ _|assumption|refine Below.drew ?_|refine qa1 ?_ _|refine Below.alloc ?_ (by first|omega|simp <;> omega) _|refine Below.setCell ?_ (by first|omega|simp <;> omega) _));rintro e w3⟨rfl,rfl⟩)|(go_at_call 240;refine(TB.out _).mono ?_;rintro e w4⟨rfl,rfl⟩)|(go_at_call 239;refine(HTN.out _ ?_).mono ?_;exact(by with_reducible repeat(first|exact Below.refl _ _|assumption|refine Below.drew ?_|refine qa1 ?_ _|refine Below.alloc ?_ (by first|omega|simp <;> omega) _|refine Below.setCell ?_ (by first|omega|simp <;> omega) _));rintro e w5⟨y,ok,rfl,hr3,hb3⟩;have HR3:=hid hr3;clear hr3;(try(have hrow3:w5.heap[w2.heap.size]? =some (.cells qak.enc.toArray 85 (0,0)):=(hb3.block _ (by simp;done)).trans (by first|exact(qa2 _ _ _).trans (if_pos rfl)|exact(show(World.drew _).heap[_]? =_ from(qa2 _ _ _).trans (if_pos rfl))|exact(show(World.alloc _ _).heap[_]? =_ from(qa2 _ _ _).trans (if_pos (by simp))));have fk0:=frozen_of_row w5 _ 0 _ _ hrow3;have fk1:=frozen_of_row w5 _ 1 _ _ hrow3;have fk2:=frozen_of_row w5 _ 2 _ _ hrow3;have fk3:=frozen_of_row w5 _ 3 _ _ hrow3;have fk4:=frozen_of_row w5 _ 4 _ _ hrow3;have qk0:=cell_of_row w5 _ 0 _ _ _ hrow3;have qk1:=cell_of_row w5 _ 1 _ _ _ hrow3;have qk2:=cell_of_row w5 _ 2 _ _ _ hrow3;have qk3:=cell_of_row w5 _ 3 _ _ _ hrow3;have qk4:=cell_of_row w5 _ 4 _ _ _ hrow3;simp only[qa3.enc,List.getElem?_toArray,List.getElem?_cons_zero,List.getElem?_cons_succ]at qk0 qk1 qk2 qk3 qk4;have hlk3:=qa0 hrow3));have ST3:Below w2.heap.size w2 w5:=(by refine Below.trans ?_ (hb3.mono ?_);exact(by with_reducible repeat(first|exact Below.refl _ _|assumption|refine Below.drew ?_|refine qa1 ?_ _|refine Below.alloc ?_ (by first|omega|simp <;> omega) _|refine Below.setCell ?_ (by first|omega|simp <;> omega) _));(first|exact Nat.le_refl _|(simp;done)|(simp;omega)|omega));have hs3:=ST3.size;clear hb3));all_goals
      obtain⟨r,hry,hro,hrn⟩:=HR3.out;go_wp2_with fail;go_meet;refine⟨_,r,rfl,by rw[hro],?_,hrn,?_,?_⟩
      · rw[<-hry];first|with_reducible exact qgr _ y _|with_reducible exact qhm hrow3 y
      · first|exact Nat.le_refl _|(simp;done)|(simp;omega)|omega
      · first|exact(by with_reducible repeat(first|exact Below.refl _ _|assumption|refine Below.drew ?_|refine qa1 ?_ _|refine Below.alloc ?_ (by first|omega|simp <;> omega) _|refine Below.setCell ?_ (by first|omega|simp <;> omega) _))|exact qba (by with_reducible repeat(first|exact Below.refl _ _|assumption|refine Below.drew ?_|refine qa1 ?_ _|refine Below.alloc ?_ (by first|omega|simp <;> omega) _|refine Below.setCell ?_ (by first|omega|simp <;> omega) _)) (by first|exact Nat.le_refl _|(simp;done)|(simp;omega)|omega) 0 _ _ _ _ _
    obtain⟨p,r,rfl,rfl,hrow,hnx,hpw,hbc⟩:=hcut;obtain⟨w3,hw3⟩:∃x,x=wc:=⟨_,rfl⟩;subst hw3;have hpb2:p≠b:=by omega
    have hppb:p≠pb:=by omega
    have hpq:p≠q:=by omega
    have h3:=H2.out.below hbc;have H3:=hid h3;have HE3:=hid (HE2.out.trans (.below hbc));have HRQ3:=hid (qac hbc hql HRQ.out);have HNX:=hid hnx;have hlx:=qa0 hrow;have k0:=cell_of_row w3 _ 0 _ _ _ hrow;have k1:=cell_of_row w3 _ 1 _ _ _ hrow;have k2:=cell_of_row w3 _ 2 _ _ _ hrow;have k3:=cell_of_row w3 _ 3 _ _ _ hrow;have k4:=cell_of_row w3 _ 4 _ _ _ hrow;simp only[qa3.enc,List.getElem?_toArray,List.getElem?_cons_zero,List.getElem?_cons_succ]at k0 k1 k2 k3 k4;have q1:w3.cell? ⟨q,1,none⟩=some (.string c.key):=cell_of_row w3 _ 1 _ _ _ HRQ3.out;have hql3:=qa0 HRQ3.out;have HROW:=hid hrow;clear h3 hrow hnx hbc TT TB HTN HC0 c0 c9 c10 H2 HE2 HRQ hpw hl hql q0 H;go_upto_region 4 with fail;go_cut [45] (λv45 wx=>v45=.bool (qze c r)/\wx=w3)
    case first =>
     cases r with
     |none =>
      rw[show(none:Option qa3).isSome=false from rfl];go_wp2_with fail;go_meet;exact⟨rfl,rfl⟩
     |some y =>
      rw[show(some y:Option qa3).isSome=true from rfl];rw[show(some y:Option qa3).getD qak=y from rfl]at k0;have HF:Hid (qze c (some y)=Op.bytesLess y.key.toList c.key.toList):=hid rfl;go_wp2_with fail;go_meet;exact⟨by rw[HF.out],rfl⟩
    obtain⟨rfl,hwe⟩:=hcut;rw[hwe];clear hwe;cases hfar:qze c r with
    |true =>
     cases r with
     |none=>cases hfar
     |some y =>
      have HY:=hid (show kl y.key c.key=true from hfar);rw[show(some y:Option qa3).getD qak=y from rfl]at k0;have c9:=H3.out.box.c 9 rfl;have c10:=H3.out.box.c 10 rfl;have f9:=H3.out.box.fr 9;have f10:=H3.out.box.fr 10;have hl:=H3.out.box.lt;clear hfar;go_wp2_with fail;refine bodyPost_ret (v:=.tuple #[]) (by simp[results,results201]) rfl ⟨rfl,M,_,d,⟨rfl,.inl ⟨by rw[HCC.out];exact HK4.out,rfl,y,by rw[HCC.out];exact HNX.out,by rw[HCC.out];exact HY.out,rfl⟩⟩,g,?_,(HE3.out.trans (ExtB.set 9 _)).trans (ExtB.set 10 _)⟩;exact(H3.out.set 9 (.string y.key) {f with pos:=y.key} rfl ⟨rfl,rfl,rfl,rfl⟩).set 10 (.bool true) {f with pos:=y.key,past:=true} rfl ⟨rfl,rfl,rfl,rfl⟩
    |false =>
     have HF:=hid hfar;obtain⟨hpl,hplo,hpb,hpc,hpf⟩:=H3.out.part HPA.out HHP.out;have p0:=(show World.cell? _ ⟨pb,po+i*8,none⟩=_ from hpc 0 _ rfl);have p1:=hpc 1 _ rfl;have p2:=(show w3.cell? ⟨pb,po+i*8+1+1,none⟩=_ from hpc 2 _ rfl);have p3:=(show w3.cell? ⟨pb,po+i*8+1+2,none⟩=_ from hpc 3 _ rfl);have p4:=(show w3.cell? ⟨pb,po+i*8+1+3,none⟩=_ from hpc 4 _ rfl);have p5:=(show w3.cell? ⟨pb,po+i*8+1+4,none⟩=_ from hpc 5 _ rfl);have g0:=hpf (po+i*8);have g1:=hpf (po+i*8+1);have g2:=hpf (po+i*8+1+1);have g3:=hpf (po+i*8+1+2);have g4:=hpf (po+i*8+1+3);have g5:=hpf (po+i*8+1+4);have h3:=H3.out;rw[show d= {d with ps:=d.ps.set i pt}by rw[qjt HHP.out HPT.out]]at h3;have HS4:=hid (h3.setHit HPA.out HHP.out false qak);clear hfar hpc hpf h3;go_upto_region 7 with fail;generalize hw4:World.setCell _ _ _=w4;have h4:WSt g w4 lo a P M b t ty f {d with ps:=d.ps.set i {pt with had:=false,old:=qak}}:=by rw[<-hw4];exact HS4.out.1
     have e4:ExtB lo b g g w w4:=by rw[<-hw4];exact HE3.out.trans HS4.out.2
     have hrow:w4.heap[p]? =some (.cells (r.getD qak).enc.toArray 85 (0,0)):=by rw[<-hw4];exact(qdr (w:=w3) (o:=po+i*8) (v:=false) (y:=qak) hppb).trans HROW.out
     have hrq:w4.heap[q]? =some (.cells c.enc.toArray 40 (0,0)):=by rw[<-hw4];exact(qdr (w:=w3) (o:=po+i*8) (v:=false) (y:=qak) hqp).trans HRQ3.out
     have H4:=hid h4;have HE4:=hid e4;have HROW4:=hid hrow;have HRQ4:=hid hrq;have hlx:=qa0 hrow;have hql4:=qa0 hrq;have q1:w4.cell? ⟨q,1,none⟩=some (.string c.key):=cell_of_row w4 _ 1 _ _ _ hrq;have k0:=cell_of_row w4 _ 0 _ _ _ hrow;have k1:=cell_of_row w4 _ 1 _ _ _ hrow;have k2:=cell_of_row w4 _ 2 _ _ _ hrow;have k3:=cell_of_row w4 _ 3 _ _ _ hrow;have k4:=cell_of_row w4 _ 4 _ _ _ hrow;simp only[qa3.enc,List.getElem?_toArray,List.getElem?_cons_zero,List.getElem?_cons_succ]at k0 k1 k2 k3 k4;clear hw4 h4 e4 hrow hrq HS4 HROW HRQ3 H3 HE3 p0 p1 p2 p3 p4 p5 g0 g1 g2 g3 g4 g5 hpl;go_cut [68] (λv68 wx=>v68=.bool (qqa c r)/\wx=w4)
     case first =>
      cases r with
      |none =>
       rw[show(none:Option qa3).isSome=false from rfl];go_wp2_with fail;go_meet;exact⟨rfl,rfl⟩
      |some y =>
       rw[show(some y:Option qa3).isSome=true from rfl];rw[show(some y:Option qa3).getD qak=y from rfl]at k0;have HB:Hid (qqa c (some y)=(y.key.toList==c.key.toList)):=hid rfl;go_wp2_with fail;go_meet;exact⟨by rw[HB.out],rfl⟩
     obtain⟨rfl,hwe⟩:=hcut;rw[hwe];clear hwe;have HRULE:Hid (∀y,r=some y->kl y.key c.key=false):=hid (λy hy=>by have:=HF.out;rw[hy]at this;exact this);cases hh:qqa c r with
     |false =>
      have HH:=hid (qq9 (pt:=pt) hh);clear hh;go_wp2_with fail;go_meet;exact⟨hitP pt c r,.inr ⟨HK4.out,r,HNX.out,HRULE.out,rfl⟩,by rw[HH.out];exact H4.out,HE4.out,HRQ4.out⟩
     |true =>
      have HH:=hid (qsx (pt:=pt) hh);have hlen:i<(d.ps.set i {pt with had:=false,old:=qak}).length:=by rw[List.length_set];exact HHP.out
      have hgi:(d.ps.set i {pt with had:=false,old:=qak})[i]= {pt with had:=false,old:=qak}:=by simp
      obtain⟨hpl,hplo,hpb,hpc,hpf⟩:=H4.out.part HPA.out hlen;have p0:=(show World.cell? _ ⟨pb,po+i*8,none⟩=_ from hpc 0 _ rfl);have p1:=hpc 1 _ rfl;have p2:=(show w4.cell? ⟨pb,po+i*8+1+1,none⟩=_ from hpc 2 _ rfl);have p3:=(show w4.cell? ⟨pb,po+i*8+1+2,none⟩=_ from hpc 3 _ rfl);have p4:=(show w4.cell? ⟨pb,po+i*8+1+3,none⟩=_ from hpc 4 _ rfl);have p5:=(show w4.cell? ⟨pb,po+i*8+1+4,none⟩=_ from hpc 5 _ rfl);have g0:=hpf (po+i*8);have g1:=hpf (po+i*8+1);have g2:=hpf (po+i*8+1+1);have g3:=hpf (po+i*8+1+2);have g4:=hpf (po+i*8+1+3);have g5:=hpf (po+i*8+1+4);clear hh hpc hpf hgi;obtain⟨y,hy⟩:∃y,y=r.getD qak:=⟨_,rfl⟩;rw[<-hy]at k0 k1 k2 k3 k4;have HYY:=hid hy;have HS5:=hid (H4.out.setHit HPA.out HHP.out true y);clear hy;go_wp2_with fail;go_region;go_wp2_with fail;go_meet;generalize hw5:World.setCell _ _ _=w5;have h5:WSt g w5 lo a P M b t ty f {d with ps:=d.ps.set i {pt with had:=true,old:=y}}:=by rw[<-hw5];exact HS5.out.1
      have e5:ExtB lo b g g w w5:=by rw[<-hw5];exact HE4.out.trans HS5.out.2
      have hrq5:w5.heap[q]? =some (.cells c.enc.toArray 40 (0,0)):=by rw[<-hw5];exact(qdr (w:=w4) (o:=po+i*8) (v:=true) (y:=y) hqp).trans HRQ4.out
      have hpp:hitP pt c r= {pt with had:=true,old:=y}:=by rw[HH.out,<-HYY.out]
      clear hw5 HS5;exact⟨hitP pt c r,.inr ⟨HK4.out,r,HNX.out,HRULE.out,rfl⟩,by rw[hpp];exact h5.drew,e5.trans (ExtB.below (Below.refl _ _).drew),hrq5⟩
 obtain⟨pt',hh,h5,e5,hr5⟩:=hcut;obtain⟨w5,hw5⟩:∃x,x=wc:=⟨_,rfl⟩;subst hw5;have HH:=hid hh;have H5:=hid h5;have HE5:=hid e5;have hlen:i<(d.ps.set i pt').length:=by rw[List.length_set];exact HHP.out
 have hgi:(d.ps.set i pt')[i]=pt':=by simp
 obtain⟨hpl,hplo,hpb,hpc,hpf⟩:=h5.part HPA.out hlen;have p0:w5.cell? ⟨pb,po+i*8,none⟩=some (.bool pt'.had):=by have:=hpc 0 _ rfl;simpa using this
 have p6:w5.cell? ⟨pb,po+i*8+6,none⟩=some (.int .i64 pt'.line):=by have:=hpc 6 _ rfl;simpa using this
 have q0:w5.cell? ⟨q,0,none⟩=some (.int .i64 c.kind):=cell_of_row w5 _ 0 _ _ _ hr5;have c7:=h5.box.c 7 rfl;have f7:=h5.box.fr 7;have hl:=h5.box.lt;have hql:=qa0 hr5;have TO:=hid (qp5 h5 i HAT.out (by omega));clear hh h5 e5 hr5 hlen hgi hpc hpf H2 HE2 HRQ H;by_cases hln:0<=pt'.line
 · have hge:decide (0<=pt'.line)=true:=decide_eq_true hln
   have HL:=hid hln;clear hln;go_wp2_with fail;refine TO.out.mono ?_;rintro r w6⟨rfl,M',f',d',⟨rfl,rfl,rfl⟩,hto⟩;have HTO:=hid hto;clear hto TO;go_wp2_with fail;exact bodyPost_ret (v:=.tuple #[]) (by simp[results,results201]) rfl ⟨rfl,_,_,_,⟨rfl,.inr ⟨pt',by rw[HCC.out,HPT.out];exact HH.out,rfl,.inl ⟨.inl HL.out,rfl⟩⟩⟩,WTo.trans HE5.out HTO.out⟩
 · have hge:decide (0<=pt'.line)=false:=decide_eq_false hln
   have HL:=hid hln;clear hln;by_cases hk3:c.kind=3
   · have hb3:(c.kind==3)=true:=by rw[beq_iff_eq];exact hk3
     have HK3:=hid hk3;clear hk3;rcases Bool.eq_false_or_eq_true pt'.had with hh|hh
     · rw[hh]at p0
       have HHD:=hid hh;clear hh;go_wp2_with fail;refine bodyPost_ret (v:=.tuple #[]) (by simp[results,results201]) rfl ⟨rfl,M,_,_,⟨rfl,.inr ⟨pt',by rw[HCC.out,HPT.out];exact HH.out,rfl,.inr ⟨by have:=HL.out;omega,λ_=>HHD.out,rfl⟩⟩⟩,g,?_,HE5.out.trans (ExtB.set 7 _)⟩;exact H5.out.set 7 (.int .i64 3) {f with phase:=3} rfl ⟨rfl,rfl,rfl,rfl⟩
     · rw[hh]at p0
       have HHD:=hid hh;clear hh;go_wp2_with fail;refine TO.out.mono ?_;rintro r w6⟨rfl,M',f',d',⟨rfl,rfl,rfl⟩,hto⟩;have HTO:=hid hto;clear hto TO;go_wp2_with fail;exact bodyPost_ret (v:=.tuple #[]) (by simp[results,results201]) rfl ⟨rfl,_,_,_,⟨rfl,.inr ⟨pt',by rw[HCC.out,HPT.out];exact HH.out,rfl,.inl ⟨.inr ⟨by rw[HCC.out];exact HK3.out,HHD.out⟩,rfl⟩⟩⟩,WTo.trans HE5.out HTO.out⟩
   · have hb3:(c.kind==3)=false:=by rw[beq_eq_false_iff_ne];exact hk3
     have HK3:=hid hk3;clear hk3;go_wp2_with fail;refine bodyPost_ret (v:=.tuple #[]) (by simp[results,results201]) rfl ⟨rfl,M,_,_,⟨rfl,.inr ⟨pt',by rw[HCC.out,HPT.out];exact HH.out,rfl,.inr ⟨by have:=HL.out;omega,λe=>absurd (by rw[<-HCC.out];exact e) HK3.out,rfl⟩⟩⟩,g,?_,HE5.out.trans (ExtB.set 7 _)⟩;exact H5.out.set 7 (.int .i64 3) {f with phase:=3} rfl ⟨rfl,rfl,rfl,rfl⟩
end
end Go.Proofs.YtecikkjbnkhhkaaGreat
