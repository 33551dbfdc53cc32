/- A part of the walk. -/
import Derived.Test.YtecikkjbnkhhkaaGreatP30
namespace Go.Proofs.YtecikkjbnkhhkaaGreat
open _root_.Go.Proofs.Tryz
set_option maxHeartbeats 4000000
set_option maxRecDepth 100000
section
open Go.RowKit
theorem qtr:(prog.info? 40).map (·.size)=some 5:=by kernel_rfl
theorem qy4{W W':World}{b x o0 o1 o2 p0 p1 p2 p3 p4:Nat}{v0 v1 v2 u0 u1 u2 u3 u4:Value}(hb:Below W.heap.size W W')(hl:b<W.heap.size)(hx:x<W.heap.size)(h:W.cell? ⟨b,o0,none⟩=some v0/\W.cell? ⟨b,o1,none⟩=some v1/\W.cell? ⟨b,o2,none⟩=some v2/\W.cell? ⟨x,p0,none⟩=some u0/\W.cell? ⟨x,p1,none⟩=some u1/\W.cell? ⟨x,p2,none⟩=some u2/\W.cell? ⟨x,p3,none⟩=some u3/\W.cell? ⟨x,p4,none⟩=some u4):
 W'.cell? ⟨b,o0,none⟩=some v0/\W'.cell? ⟨b,o1,none⟩=some v1/\W'.cell? ⟨b,o2,none⟩=some v2/\W'.cell? ⟨x,p0,none⟩=some u0/\W'.cell? ⟨x,p1,none⟩=some u1/\W'.cell? ⟨x,p2,none⟩=some u2/\W'.cell? ⟨x,p3,none⟩=some u3/\W'.cell? ⟨x,p4,none⟩=some u4:=
 have k:∀o,W'.cell? ⟨b,o,none⟩=W.cell? ⟨b,o,none⟩:=λo=>hb.cell (p:=⟨b,o,none⟩) hl
 have q:∀o,W'.cell? ⟨x,o,none⟩=W.cell? ⟨x,o,none⟩:=λo=>hb.cell (p:=⟨x,o,none⟩) hx
 ⟨(k _).trans h.1,(k _).trans h.2.1,(k _).trans h.2.2.1,(q _).trans h.2.2.2.1,(q _).trans h.2.2.2.2.1,(q _).trans h.2.2.2.2.2.1,(q _).trans h.2.2.2.2.2.2.1,(q _).trans h.2.2.2.2.2.2.2⟩
section
variable {g:Own8}{w:World}{lo a b t:Nat}{P:qag}{M:qa4}{ty:TypeId}{f:qa5}{d:FrD}
def qxq(f:qa5)(c:qa7)(i:Nat)(w:World)(e:Ending)(w':World):Prop:=∃pb po,f.pA=some ⟨pb,po,none⟩/\e=.returned (.tuple #[qbz c,.pointer (some ⟨pb,po+i*8,none⟩)])/\Below w.heap.size w w'
theorem qhq(h:WSt g w lo a P M b t ty f d)(i:Nat)(hi:f.at'=(i:Int))(hg:i<d.gr.length)(hp:i<d.ps.length):Calls prog 257 #[.pointer (some ⟨b,0,none⟩)] w (qxq f d.gr[i] i w):=by
 have c6:=h.box.c 6 rfl;have c22:=h.box.c 22 rfl;have c23:=h.box.c 23 rfl;rw[hi]at c22;rw[h.grp.1.2.1]at c6;rw[h.prt.2.1]at c23;have hl:=h.box.lt;obtain⟨x,off,hA,hx,k0,k1,k2,k3,k4⟩:=h.grp.1.1.call0 hg;obtain⟨pb,po,hpA⟩:∃pb po,f.pA=some ⟨pb,po,none⟩:=by
  rcases h.prt.1.arr qas.enc_len with h0|⟨pb,po,h1,_⟩
  · rw[h0]at hp;simp at hp
  · exact⟨pb,po,h1⟩
 rw[hA]at c6;rw[hpA]at c23;have i0:(0:Int)<=(i:Int):=by omega
 have i1:(i:Int)<(d.gr.length:Int):=by omega
 have i2:(i:Int)<(d.ps.length:Int):=by omega
 have HPA:=hid hpA;have HC:=hid (And.intro c6 (And.intro c22 (And.intro c23 (And.intro k0 (And.intro k1 (And.intro k2 (And.intro k3 k4)))))));clear h hi hA hpA;generalize d.gr[i]=c at *;generalize d.gr.length=n at *;generalize d.ps.length=m at *;go_enter func257,ntmps257;go_upto_region 1 with fail;generalize hw1:World.alloc _ _=w1;obtain⟨q,hq⟩:∃q,q=w.heap.size:=⟨_,rfl⟩;have R1:w1.heap[q]? =some (.cells #[.int .i64 0,.string ByteArray.empty,.string ByteArray.empty,.string ByteArray.empty,.slice none 0 0] 40 (0,0)):=by rw[<-hw1,hq];exact(qa2 _ _ _).trans (if_pos rfl)
 have b1:Below w.heap.size w w1:=by rw[<-hw1];exact(Below.refl _ _).alloc (Nat.le_refl _) _
 rw[<-hq];have hqw:w.heap.size<=q:=by omega
 have hc1:=qy4 b1 hl hx HC.out;have HC1:=hid hc1;obtain⟨c6,c22,c23,k0,k1,k2,k3,k4⟩:=hc1;have e0:w1.cell? ⟨q,0,none⟩=some (.int .i64 0):=cell_of_row w1 _ 0 _ _ _ R1;have e1:w1.cell? ⟨q,1,none⟩=some (.string ByteArray.empty):=cell_of_row w1 _ 1 _ _ _ R1;have e2:w1.cell? ⟨q,2,none⟩=some (.string ByteArray.empty):=cell_of_row w1 _ 2 _ _ _ R1;have e3:w1.cell? ⟨q,3,none⟩=some (.string ByteArray.empty):=cell_of_row w1 _ 3 _ _ _ R1;have e4:w1.cell? ⟨q,4,none⟩=some (.slice none 0 0):=cell_of_row w1 _ 4 _ _ _ R1;have g0:w1.frozen? ⟨q,0,none⟩=false:=frozen_of_row w1 _ 0 _ _ R1;have g1:w1.frozen? ⟨q,1,none⟩=false:=frozen_of_row w1 _ 1 _ _ R1;have g2:w1.frozen? ⟨q,2,none⟩=false:=frozen_of_row w1 _ 2 _ _ R1;have g3:w1.frozen? ⟨q,3,none⟩=false:=frozen_of_row w1 _ 3 _ _ R1;have g4:w1.frozen? ⟨q,4,none⟩=false:=frozen_of_row w1 _ 4 _ _ R1;have hbq:b≠q:=by omega
 have hxq:x≠q:=by omega
 have hq1:=qa0 R1;have hl1:b<w1.heap.size:=by omega
 have hx1:x<w1.heap.size:=by omega
 have HR1:=hid R1;have HB1:=hid b1;have ST1:=b1;clear hw1 R1 b1 hq;go_region_held3 (λW=>W.cell? ⟨b,6,none⟩=some (.slice (some ⟨x,off,none⟩) n f.call.gc)/\W.cell? ⟨b,22,none⟩=some (.int .i64 (i:Int))/\W.cell? ⟨b,23,none⟩=some (.slice (some ⟨pb,po,none⟩) m f.pc)/\W.cell? ⟨x,off+i*5,none⟩=some (.int .i64 c.kind)/\W.cell? ⟨x,off+i*5+1,none⟩=some (.string c.key)/\W.cell? ⟨x,off+i*5+2,none⟩=some (.string c.val)/\W.cell? ⟨x,off+i*5+3,none⟩=some (.string c.tx)/\W.cell? ⟨x,off+i*5+4,none⟩=some (.slice c.gA c.gn c.gc)) (first|(with_reducible refine qy4 (W:=w) ?_ hl hx HC.out;(repeat(first|with_reducible exact Below.refl _ _|with_reducible assumption|with_reducible refine Below.drew ?_|with_reducible refine qa1 ?_ _|refine qba ?_ hqw 0 _ _ _ _ _));done)|go_keep) (fail);all_goals
  have HRW:=hid (qay (qay (qay (qay (qay (cs:=[.int .i64 0,.string ByteArray.empty,.string ByteArray.empty,.string ByteArray.empty,.slice none 0 0]) HR1.out 0 (.int .i64 c.kind)) 1 (.string c.key)) 2 (.string c.val)) 3 (.string c.tx)) 4 (.slice c.gA c.gn c.gc));have HBZ:=hid (qba HB1.out hqw 0 (.int .i64 c.kind) (.string c.key) (.string c.val) (.string c.tx) (.slice c.gA c.gn c.gc));clear e0 e1 e2 e3 e4 g0 g1 g2 g3 g4;go_wp2_with fail;refine bodyPost_ret (v:=.tuple #[qbz c,.pointer (some ⟨pb,po+i*8,none⟩)]) ?_ rfl ⟨pb,po,HPA.out,rfl,?_⟩
  · exact qdp results257 _ _ q c.enc _ rfl (qb5 (t:=40) (by first|exact HRW.out|exact(show(World.drew _).heap[_]? =_ from HRW.out)|exact(show(World.drewN _ _).heap[_]? =_ from HRW.out))) underlying40 rfl qtr
  · first|exact HBZ.out|exact HBZ.out.drew|exact qa1 HBZ.out _
end
end
section
open Go.RowKit
section
variable {g:Own8}{w w':World}{lo a b t:Nat}{P:qag}{M:qa4}{ty:TypeId}{f:qa5}{d:FrD}
theorem WSt.part(h:WSt g w lo a P M b t ty f d){pb po i:Nat}(hA:f.pA=some ⟨pb,po,none⟩)(hi:i<d.ps.length):
 pb<w.heap.size/\lo<=pb/\pb≠b/\(∀m v,(qas.enc d.ps[i])[m]? =some v->w.cell? ⟨pb,po+i*8+m,none⟩=some v)/\∀o,w.frozen? ⟨pb,o,none⟩=false:=by
 have hpc:¬f.pc=0:=by have:=h.prt.1.1;omega
 have hrow:qa8 f.pA f.pc=some pb:=by rw[hA,qa8,if_neg hpc];rfl
 obtain⟨cur,hcur⟩:=qef h.prt.1 hrow;refine⟨qa0 hcur,qe4 h.prt.1 pb hrow,λe=>h.prt.1.notBox h.box h.hty.ne.2.1 (e ▸ hrow.symm),λm v hv=>?_,λo=>frozen_of_row w pb o _ _ hcur⟩;rcases h.prt.1.arr qas.enc_len with h0|⟨x,off,hx,_,hc⟩
 · rw[h0]at hi;simp at hi
 · rw[hA]at hx
   cases hx
   exact hc i hi m v hv
def qBc(M:qa4)(f:qa5)(d:FrD)(c:qa7)(k:Int)(n p i:Nat)(M':qa4)(f':qa5)(d':FrD):Prop:=M'= {M with D:=wrD M c k n p}/\d'=d /\
 ((p+1=qa9 k/\f'= {f with piece:=0,at':=((i+1:Nat):Int),pos:=ByteArray.empty,past:=false,phase:=if i+1=f.call.gn then 5 else 1})\/(¬p+1=qa9 k/\f'= {f with piece:=((p+1:Nat):Int)}))
theorem qnm(h:WSt g w lo a P M b t ty f d)(i n p:Nat)(hat:f.at'=(i:Int))(hg:i<d.gr.length)(hp:i<d.ps.length)(hib:i<=1000)(hck:d.gr[i].key.size<=1000)(hcv:d.gr[i].val.size<=1000)(hline:d.ps[i].line=(n:Int))(hpiece:f.piece=(p:Int))(hk:¬qa9 d.ps[i].cls=0)(hpk:p<qa9 d.ps[i].cls)(hn:n+qa9 d.ps[i].cls<=M.D.length):
 Calls prog 203 #[.pointer (some ⟨b,0,none⟩)] w (qal lo a P b t ty (qBc M f d d.gr[i] d.ps[i].cls n p i) g w):=by
 have H:=hid h;have TN:=hid (qhq h i hat hg hp);obtain⟨k,hkd⟩:∃k,k=d.ps[i].cls:=⟨_,rfl⟩;rw[<-hkd]at hk hpk hn ⊢;go_enter func203,ntmps203;go_wp2_with fail;refine TN.out.mono ?_;rintro e w1⟨pb,po,hA,rfl,hb1⟩;rw[show qbz d.gr[i]=.agg #[.int .i64 d.gr[i].kind,.string d.gr[i].key,.string d.gr[i].val,.string d.gr[i].tx,.slice d.gr[i].gA d.gr[i].gn d.gr[i].gc]from rfl];generalize hcc:d.gr[i]=c at *;go_upto_region 1 with fail;generalize hw2:World.alloc _ _=w2;obtain⟨q,hq⟩:∃q,q=w1.heap.size:=⟨_,rfl⟩;have R2:w2.heap[q]? =some (.cells c.enc.toArray 40 (0,0)):=by rw[<-hw2,hq];exact(qa2 _ _ _).trans (if_pos rfl)
 have b2:Below w.heap.size w w2:=by rw[<-hw2];exact hb1.alloc hb1.size _
 rw[<-hq];have h2:=H.out.below b2;obtain⟨hpl,hplo,hpb,hpc,hpf⟩:=h2.part hA hp;have c0:=h2.c0;have c20:=h2.box.c 20 rfl;rw[hpiece]at c20;have p6:=hpc 6 _ rfl;have p7:=hpc 7 _ rfl;rw[hline]at p6;have q0:w2.cell? ⟨q,0,none⟩=some (.int .i64 c.kind):=cell_of_row w2 _ 0 _ _ _ R2;have q1:w2.cell? ⟨q,1,none⟩=some (.string c.key):=cell_of_row w2 _ 1 _ _ _ R2;have q2:w2.cell? ⟨q,2,none⟩=some (.string c.val):=cell_of_row w2 _ 2 _ _ _ R2;have q3:w2.cell? ⟨q,3,none⟩=some (.string c.tx):=cell_of_row w2 _ 3 _ _ _ R2;have q4:w2.cell? ⟨q,4,none⟩=some (.slice c.gA c.gn c.gc):=cell_of_row w2 _ 4 _ _ _ R2;have hl:=h2.box.lt;have hql:=qa0 R2;have H2:=hid h2;have HE2:Hid (ExtB lo b g g w w2):=hid (ExtB.below b2);rw[<-hkd]at p7;have HC:=hid (And.intro c0 (And.intro c20 (And.intro q0 (And.intro q1 (And.intro q2 (And.intro q3 (And.intro q4 (And.intro p6 p7))))))));have TW:=hid (λW (hW:Below w2.heap.size w2 W)=>qg2 (h2.below hW).ar c hck hcv n p k hk hpk hn);have TW0:=hid (TW.out _ (Below.refl _ _).drew);have HCC:=hid hcc;have HPC:=hid hpiece;have HQI:=hid hat;obtain⟨pz,hpz⟩:∃pz,pz=p+1:=⟨_,rfl⟩;have hs:qa9 k<=8:=by unfold qa9;repeat(first|split|omega)
 have hw1:IntKind.i64.wrap ((p:Int)+1)=(pz:Int):=by rw[Go.IntWalk.i64_in _ (by omega)];omega
 have HQ:=hid hpz;clear h h2 TN hw2 R2 b2 hb1 hcc hq hpc hpf hat hline hpiece hA hpz;go_still_tail 18,(by kernel_rfl);change wpList _ _ _ _ _ (World.drew w2);have HE3:Hid (ExtB lo b g g w w2.drew):=hid (HE2.out.trans (ExtB.below (Below.refl _ _).drew));have H3:=hid H2.out.drew;generalize hw3:World.drew w2=w3 at *;clear hw3 c0 c20 q0 q1 q2 q3 q4 p6 p7 hl hql hpl HC TW H2 HE2;go_wp2_with fail;rw[<-hkd];refine TW0.out.mono ?_;rintro r w4⟨rfl,g4,A4,E4⟩;have h4:=H3.out.ext A4 E4;have H4:=hid h4;have HE4:=hid (HE3.out.trans (.of_ext E4));have c20:=h4.box.c 20 rfl;rw[HPC.out]at c20;have f20:=h4.box.fr 20;have hl:=h4.box.lt;clear h4 A4 E4 TW0 H3 HE3;subst hkd;have hcc:=HCC.out;subst hcc;by_cases hlast:p+1=qa9 d.ps[i].cls
 · have hd:decide (p+1=qa9 d.ps[i].cls)=true:=decide_eq_true hlast
   rw[hd];have HL:=hid hlast;clear hd hlast;go_upto_region 5 with fail;generalize hw5:World.setCell _ _ _=w5;have H5:Hid (WSt g4 w5 lo a P {M with D:=wrD M d.gr[i] d.ps[i].cls n p} b t ty {f with piece:=0} d):=hid (by rw[<-hw5];exact(H4.out.set 20 (.int .i64 (pz:Int)) {f with piece:=(pz:Int)} rfl ⟨rfl,rfl,rfl,rfl⟩).set 20 (.int .i64 0) {f with piece:=0} rfl ⟨rfl,rfl,rfl,rfl⟩);have HE5:Hid (ExtB lo b g g4 w w5):=hid (by rw[<-hw5];exact(HE4.out.trans (ExtB.set 20 _)).trans (ExtB.set 20 _));have TO:=hid (qp5 H5.out i HQI.out (by omega));clear hw5 H4 HE4 c20 f20 hl;go_wp2_with fail;refine TO.out.mono ?_;rintro r w6⟨rfl,M',f',d',⟨rfl,rfl,rfl⟩,hto⟩;have HTO:=hid hto;clear hto TO;go_wp2_with fail;exact bodyPost_ret (v:=.tuple #[]) (by simp[results,results203]) rfl ⟨rfl,_,_,_,⟨rfl,rfl,.inl ⟨HL.out,rfl⟩⟩,WTo.trans HE5.out HTO.out⟩
 · have hd:decide (p+1=qa9 d.ps[i].cls)=false:=decide_eq_false hlast
   rw[hd];have HL:=hid hlast;clear hd hlast;go_wp2_with fail;refine bodyPost_ret (v:=.tuple #[]) (by simp[results,results203]) rfl ⟨rfl,_,_,_,⟨rfl,rfl,.inr ⟨HL.out,rfl⟩⟩,g4,?_,HE4.out.trans (ExtB.set 20 _)⟩;have:=HQ.out;subst this;exact H4.out.set 20 (.int .i64 ((p+1:Nat):Int)) {f with piece:=((p+1:Nat):Int)} rfl ⟨rfl,rfl,rfl,rfl⟩
end
end
section
open Go.RowKit
def qpe(fn:Nat)(isB:qa7->qas->Bool):Prop:=(∀args w,(callFunc fn args).run prog w=.ok (.enter fn args) w)/\∀(c:qa7) (p:qas) (W:World),Calls prog fn #[.agg #[.int .i64 c.kind,.string c.key,.string c.val,.string c.tx,.slice c.gA c.gn c.gc],.agg #[.bool p.had,.string p.old.key,.int .u64 (p.old.id:Int),.int .u64 (p.old.ver:Int),.int .i64 p.old.line,.int .i64 p.old.cls,.int .i64 p.line,.int .i64 p.cls]] W λe w'=>e=.returned (.bool (isB c p))/\Below W.heap.size W w'
theorem qAx:qpe 260 λ_ _=>true:=by
 refine⟨enters_of func260 (by kernel_rfl) rfl,?_⟩;intro c p W;go_enter func260,ntmps260;go_wp2_with fail;go_ret;exact⟨rfl,(by with_reducible repeat(first|exact Below.refl _ _|assumption|refine Below.drew ?_|refine qa1 ?_ _|refine Below.alloc ?_ (by first|omega|simp <;> omega) _|refine Below.setCell ?_ (by first|omega|simp <;> omega) _))⟩
theorem qAw:qpe 262 λ_ _=>true:=by
 refine⟨enters_of func262 (by kernel_rfl) rfl,?_⟩;intro c p W;go_enter func262,ntmps262;go_wp2_with fail;go_ret;exact⟨rfl,(by with_reducible repeat(first|exact Below.refl _ _|assumption|refine Below.drew ?_|refine qa1 ?_ _|refine Below.alloc ?_ (by first|omega|simp <;> omega) _|refine Below.setCell ?_ (by first|omega|simp <;> omega) _))⟩
theorem qAv:qpe 261 λc p=>(c.kind==3)&& !p.had:=by
 refine⟨enters_of func261 (by kernel_rfl) rfl,?_⟩;intro c p W;go_enter func261,ntmps261;rcases Bool.eq_false_or_eq_true (c.kind==3)with h3|h3
 · rw[h3]
   go_wp2_with fail;go_ret;exact⟨by simp,(by with_reducible repeat(first|exact Below.refl _ _|assumption|refine Below.drew ?_|refine qa1 ?_ _|refine Below.alloc ?_ (by first|omega|simp <;> omega) _|refine Below.setCell ?_ (by first|omega|simp <;> omega) _))⟩
 · rw[h3]
   go_wp2_with fail;go_ret;exact⟨by simp,(by with_reducible repeat(first|exact Below.refl _ _|assumption|refine Below.drew ?_|refine qa1 ?_ _|refine Below.alloc ?_ (by first|omega|simp <;> omega) _|refine Below.setCell ?_ (by first|omega|simp <;> omega) _))⟩
section
variable {g:Own8}{w w':World}{lo a b t:Nat}{P:qag}{M:qa4}{ty:TypeId}{f:qa5}{d:FrD}
def qBs(M:qa4)(f:qa5)(d:FrD)(M':qa4)(f':qa5)(d':FrD):Prop:=f'=f/\∃S' ps',S'.length=M.S.length/\M'= {M with S:=S'}/\ps'.length=d.ps.length/\d'= {d with ps:=ps'}
theorem qi6.len{S S':List qan}(h:qi6 S S'):S'.length=S.length:=by
 rcases h with rfl|⟨i,k,hi,rfl,_⟩
 · rfl
 · rw[List.length_set]
theorem qg1(h:WSt g w lo a P M b t ty f d)(hgp:d.ps.length<=d.gr.length)(hb3:d.ps.length<=1000){fn:Nat}{isB:qa7->qas->Bool}(HI:qpe fn isB):
 Calls prog 259 #[.pointer (some ⟨b,0,none⟩),.func (.func fn) #[] #[]] w (qal lo a P b t ty (qBs M f d) g w):=by
 have H:=hid h;have HII:=hid HI;have c23:=h.box.c 23 rfl;rw[h.prt.2.1]at c23;have hl:=h.box.lt;clear h HI;go_enter func259,ntmps259;go_upto_region 1 with fail;go_loopw [12] (λv12 wr=>∃(k:Nat) (g':Own8) (S':List qan) (ps':List qas),k<=d.ps.length/\v12=.int .i64 k/\S'.length=M.S.length/\ps'.length=d.ps.length/\WSt g' wr lo a P {M with S:=S'} b t ty f {d with ps:=ps'}/\ExtB lo b g g' w wr) (λv12 _=>d.ps.length-(intOf v12).toNat)
 case atStart=>exact⟨0,g,M.S,d.ps,Nat.zero_le _,rfl,rfl,rfl,H.out,ExtB.refl _ _ _ _⟩
 case round =>
  obtain⟨k,g1,S1,ps1,hkl,rfl,hS,hps,h1,e1⟩:=hrel;have HS:=hid hS;have HPS:=hid hps;have H1:=hid h1;have HE1:=hid e1;by_cases hlt:k<d.ps.length
  · have hk1:k<ps1.length:=by omega
    have hkg:k<d.gr.length:=by omega
    have i1:(0:Int)<=(k:Int):=by omega
    have i2:(k:Int)<(d.ps.length:Int):=by omega
    have i3:(k:Int)<(ps1.length:Int):=by omega
    have i4:(k:Int)<(d.gr.length:Int):=by omega
    have c23:=h1.box.c 23 rfl;have c6:=h1.box.c 6 rfl;rw[h1.prt.2.1]at c23;rw[h1.grp.1.2.1]at c6;have hl:=h1.box.lt;obtain⟨x,off,hA,hx,k0,k1,k2,k3,k4⟩:=h1.grp.1.1.call0 hkg;obtain⟨pb,po,hpA⟩:∃pb po,f.pA=some ⟨pb,po,none⟩:=by
     rcases h1.prt.1.arr qas.enc_len with h0|⟨pb,po,h1,_⟩
     · simp at h0;rw[h0]at hk1;simp at hk1
     · exact⟨pb,po,h1⟩
    obtain⟨hpl,hplo,hpb,hpc,hpf⟩:=h1.part hpA hk1;have p0:=hpc 0 _ rfl;have p1:=hpc 1 _ rfl;have p2:=hpc 2 _ rfl;have p3:=hpc 3 _ rfl;have p4:=hpc 4 _ rfl;have p5:=hpc 5 _ rfl;have p6:=hpc 6 _ rfl;have p7:=hpc 7 _ rfl;rw[hA]at c6;rw[hpA]at c23;obtain⟨pt,hpt⟩:∃pt,pt=ps1[k]:=⟨_,rfl⟩;obtain⟨c,hc⟩:∃c,c=d.gr[k]:=⟨_,rfl⟩;have q0:wr.cell? ⟨x,off+k*5,none⟩=some (.int .i64 c.kind):=by rw[hc];exact k0
    have q1:wr.cell? ⟨x,off+k*5+1,none⟩=some (.string c.key):=by rw[hc];exact k1
    have q2:wr.cell? ⟨x,off+k*5+2,none⟩=some (.string c.val):=by rw[hc];exact k2
    have q3:wr.cell? ⟨x,off+k*5+3,none⟩=some (.string c.tx):=by rw[hc];exact k3
    have q4:wr.cell? ⟨x,off+k*5+4,none⟩=some (.slice c.gA c.gn c.gc):=by rw[hc];exact k4
    have r0:wr.cell? ⟨pb,po+k*8,none⟩=some (.bool pt.had):=by rw[hpt];exact p0
    have r1:wr.cell? ⟨pb,po+k*8+1,none⟩=some (.string pt.old.key):=by rw[hpt];exact p1
    have r2:wr.cell? ⟨pb,po+k*8+2,none⟩=some (.int .u64 (pt.old.id:Int)):=by rw[hpt];exact p2
    have r3:wr.cell? ⟨pb,po+k*8+3,none⟩=some (.int .u64 (pt.old.ver:Int)):=by rw[hpt];exact p3
    have r4:wr.cell? ⟨pb,po+k*8+4,none⟩=some (.int .i64 pt.old.line):=by rw[hpt];exact p4
    have r5:wr.cell? ⟨pb,po+k*8+5,none⟩=some (.int .i64 pt.old.cls):=by rw[hpt];exact p5
    have r6:wr.cell? ⟨pb,po+k*8+6,none⟩=some (.int .i64 pt.line):=by rw[hpt];exact p6
    have r7:wr.cell? ⟨pb,po+k*8+7,none⟩=some (.int .i64 pt.cls):=by rw[hpt];exact p7
    have e6:wr.cell? ⟨b,6,none⟩=some (.slice (some ⟨x,off,none⟩) d.gr.length f.call.gc):=c6;have e23:wr.cell? ⟨b,23,none⟩=some (.slice (some ⟨pb,po,none⟩) ps1.length f.pc):=c23;have HPA:=hid hpA;have HK1:=hid hk1;have HPT:=hid hpt;clear k0 k1 k2 k3 k4 p0 p1 p2 p3 p4 p5 p6 p7 c6 c23 hA hpA h1 e1 hpt hc hpc hpf hS hkg;generalize d.gr.length=gn at e6 i4;go_upto_region 4 with fail;go_cut [42] (λv42 wx=>∃r:Bool,v42=.bool r/\Below wr.heap.size wr wx)
    case first =>
     by_cases hln:0<=pt.line
     · have hge:decide (0<=pt.line)=true:=decide_eq_true hln
       clear hln;go_still_tail 19,(by kernel_rfl);have eg:=HII.out.1;go_wp2_with fail;refine(HII.out.2 c pt _).mono ?_;rintro e w2⟨rfl,hb2⟩;have ST2:Below wr.heap.size wr w2:=(Below.refl _ _).drew.trans (hb2.mono (Nat.le_refl _));clear hb2;go_wp2_with fail;go_meet;exact⟨isB c pt,rfl,ST2⟩
     · have hge:decide (0<=pt.line)=false:=decide_eq_false hln
       clear hln;go_quiet (fail);go_wp2_with fail;go_meet;exact⟨false,rfl,(by with_reducible repeat(first|exact Below.refl _ _|assumption|refine Below.drew ?_|refine qa1 ?_ _|refine Below.alloc ?_ (by first|omega|simp <;> omega) _|refine Below.setCell ?_ (by first|omega|simp <;> omega) _))⟩
    obtain⟨r,rfl,hb2⟩:=hcut;obtain⟨w2,hw2⟩:∃x,x=wc:=⟨_,rfl⟩;subst hw2;have h2:=H1.out.below hb2;have H2:=hid h2;have HE2:=hid (HE1.out.trans (.below hb2));clear hb2 q0 q1 q2 q3 q4 r0 r1 r2 r3 r4 r5 r6 r7 e6 e23 hx hpl;cases r with
    |false =>
     clear h2;go_wp2_with fail;exact⟨⟨k+1,g1,S1,ps1,by omega,by go_num,HS.out,HPS.out,H2.out,HE2.out⟩,by simp[intOf];omega⟩
    |true =>
     obtain⟨hpl,hplo,hpb,hpc,hpf⟩:=h2.part HPA.out HK1.out;have r6:w2.cell? ⟨pb,po+k*8+6,none⟩=some (.int .i64 pt.line):=by rw[HPT.out];exact hpc 6 _ rfl
     have c0:=h2.c0;have hl:=h2.box.lt;have TP:=hid (qi1 h2.drew.ar);clear h2 hpc hpf;go_upto_region 5 with fail;go_still_tail 9,(by kernel_rfl);still_call TP.out;repeat still_step
     refine wpStill_nil ?_;change wpList _ _ _ _ _ (World.drew w2);have H3:=hid H2.out.drew;have HE3:Hid (ExtB lo b g g1 w w2.drew):=hid (HE2.out.trans (ExtB.below (Below.refl _ _).drew));generalize hw3:World.drew w2=w3 at *;clear hw3 c0 r6 hl hpl TP H2 HE2;go_wp2_with fail;refine(qmf H3.out.ar pt.line).mono ?_;rintro e w4⟨code,S',rfl,hs,g4,A4,E4⟩;have HS4:=hid (hs.len.trans HS.out);have h4:=H3.out.ext A4 E4;have H4:=hid h4;have HE4:=hid (HE3.out.trans (.of_ext E4));obtain⟨hpl,hplo,hpb,hpc,hpf⟩:=h4.part HPA.out HK1.out;have r6:w4.cell? ⟨pb,po+k*8+6,none⟩=some (.int .i64 pt.line):=by rw[HPT.out];exact hpc 6 _ rfl
     have f6:=hpf (po+k*8+6);have HSP:=hid (h4.setPart HPA.out HK1.out (m:=6) (by omega) (.int .i64 (-1)) {pt with line:= -1} (by rw[HPT.out];rfl));clear h4 A4 E4 hs hpc hpf H3 HE3;go_wp2_with fail;exact⟨⟨k+1,g4,S',ps1.set k {pt with line:= -1},by omega,by go_num,HS4.out,by rw[List.length_set];exact HPS.out,HSP.out.1,HE4.out.trans HSP.out.2⟩,by simp[intOf];omega⟩
  · obtain rfl:k=d.ps.length:=by omega
    clear hkl h1 e1;go_wp2_with fail;exact bodyPost_ret (v:=.tuple #[]) (by simp[results,results259]) rfl ⟨rfl,_,_,_,⟨rfl,S1,ps1,HS.out,rfl,HPS.out,rfl⟩,g1,H1.out,HE1.out⟩
end
end
end Go.Proofs.YtecikkjbnkhhkaaGreat
