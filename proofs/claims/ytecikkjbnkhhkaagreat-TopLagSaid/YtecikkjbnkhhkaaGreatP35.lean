/- A part of the walk. -/
import Derived.Test.YtecikkjbnkhhkaaGreatP34
import Derived.Test.YtecikkjbnkhhkaaGreatP31
import Derived.Test.YtecikkjbnkhhkaaGreatP32
namespace Go.Proofs.YtecikkjbnkhhkaaGreat
open _root_.Go.Proofs.Tryz
set_option maxHeartbeats 4000000
set_option maxRecDepth 100000
section
open Go.RowKit
section
variable {g:Own8}{w:World}{lo a b t:Nat}{P:qag}{M:qa4}{ty:TypeId}{f:qa5}{d:FrD}
theorem qmr(h:WSt g w lo a P M b t ty f d)(ht:t<M.H.length):Calls prog 188 #[.pointer (some ⟨b,0,none⟩)] w (qal lo a P b t ty (qmk M t f d M.H[t] (λf=> {f with phase:=if f.call.kind=5 then 1 else 3})) g w):=by
 have H:=hid h;have c0:=h.c0;have c1:=h.c1;have hl:=h.box.lt;have TE:=hid (qg5 h.drew ht);generalize hh0:M.H[t]=h0 at *;clear h hh0;go_enter func188,ntmps188;go_upto_region 0 with fail;go_still_tail 11,(by kernel_rfl);change wpList _ _ _ _ _ (World.drew w);have HE1:Hid (ExtB lo b g g w w.drew):=hid (ExtB.below (Below.refl _ _).drew);generalize hw1:World.drew w=w1 at *;clear hw1 c0 c1 hl;go_wp2_with fail;refine TE.out.mono ?_;rintro r w2 (⟨h1,rfl,g2,W2,E2⟩|⟨h1,h2,rfl,g2,W2,E2⟩|⟨h1,h2,rfl,g2,W2,E2⟩)
 · have HW:=hid W2
   have HE:=hid E2;have H1:=hid h1;clear W2 E2 h1;go_wp2_with fail;exact bodyPost_ret (v:=.tuple #[]) (by simp[results,results188]) rfl ⟨rfl,M,_,d,⟨rfl,.inl ⟨H1.out,rfl,rfl⟩⟩,g2,HW.out,HE1.out.trans HE.out⟩
 · have HW:=hid W2
   have HE:=hid E2;have H1:=hid h1;have H2:=hid h2;clear W2 E2 h1 h2;go_wp2_with fail;exact bodyPost_ret (v:=.tuple #[]) (by simp[results,results188]) rfl ⟨rfl,M,_,d,⟨rfl,.inr (.inl ⟨H1.out,H2.out,rfl,rfl⟩)⟩,g2,HW.out,HE1.out.trans HE.out⟩
 · have HW:=hid W2
   have HE:=hid E2;have H1:=hid h1;have H2:=hid h2;have c7:=W2.box.c 7 rfl;have f7:=W2.box.fr 7;have hl:=W2.box.lt;have HE1':=hid (HE1.out.trans HE.out);clear W2 E2 h1 h2 HE HE1 TE;go_upto_region 2 with fail;have H3:=hid (HW.out.set 7 (.int .i64 3) {f with ep:=M.now,phase:=3} rfl ⟨rfl,rfl,rfl,rfl⟩);have HE3:=hid (HE1'.out.trans (ExtB.set (lo:=lo) (b:=b) 7 (.int .i64 3)));generalize World.setCell w2 _ _=w3 at *;have TD:=qkz H3.out;clear c7 f7 hl HW HE1';go_wp2_with fail;refine TD.mono ?_;rintro r w4⟨rfl,rfl⟩;by_cases hk:f.call.kind=5
   · have hb:(({f with ep:=M.now,phase:=3}:qa5).call.kind==5)=true:=by show(f.call.kind==5)=true;rw[hk];rfl
     rw[hb];have HK:=hid hk;have c7:=H3.out.box.c 7 rfl;have f7:=H3.out.box.fr 7;have hl:=H3.out.box.lt;clear hk hb TD;go_wp2_with fail;exact bodyPost_ret (v:=.tuple #[]) (by simp[results,results188]) rfl ⟨rfl,_,_,d,⟨rfl,.inr (.inr ⟨H1.out,H2.out,rfl,by dsimp only;rw[if_pos HK.out]⟩)⟩,g2,H3.out.set 7 (.int .i64 1) {f with ep:=M.now,phase:=1} rfl ⟨rfl,rfl,rfl,rfl⟩,HE3.out.trans (ExtB.set _ _)⟩
   · have hb:(({f with ep:=M.now,phase:=3}:qa5).call.kind==5)=false:=by show(f.call.kind==5)=false;rw[beq_eq_false_iff_ne];exact hk
     rw[hb];have HK:=hid hk;clear hk hb TD;go_wp2_with fail;exact bodyPost_ret (v:=.tuple #[]) (by simp[results,results188]) rfl ⟨rfl,_,_,d,⟨rfl,.inr (.inr ⟨H1.out,H2.out,rfl,by dsimp only;rw[if_neg HK.out]⟩)⟩,g2,H3.out,HE3.out⟩
theorem qmq(h:WSt g w lo a P M b t ty f d)(ht:t<M.H.length):Calls prog 194 #[.pointer (some ⟨b,0,none⟩)] w (VTo lo a P b t ty g w {M with H:=M.H.set t 0} {f with phase:=7} d):=by
 have c0:=h.c0;have c1:=h.c1;have hl:=h.box.lt;have TE:=hid (qg4 h.drew ht);clear h;go_enter func194,ntmps194;go_upto_region 0 with fail;go_still_tail 11,(by kernel_rfl);change wpList _ _ _ _ _ (World.drew w);have HE1:Hid (ExtB lo b g g w w.drew):=hid (ExtB.below (Below.refl _ _).drew);generalize hw1:World.drew w=w1 at *;clear hw1 c0 c1 hl;go_wp2_with fail;refine TE.out.mono ?_;rintro r w2⟨rfl,hto⟩;have HTO:=hid hto;clear hto;go_wp2_with fail;exact bodyPost_ret (v:=.tuple #[]) (by simp[results,results194]) rfl ⟨rfl,WTo.trans HE1.out HTO.out⟩
theorem qmp(h:WSt g w lo a P M b t ty f d)(hck:f.call.key.size<=1000)(hcv:f.call.val.size<=1000)(n p:Nat)(hline:f.line=(n:Int))(hpiece:f.piece=(p:Int))(hk:¬qa9 f.cls=0)(hp:p<qa9 f.cls)(hn:n+qa9 f.cls<=M.D.length):
 Calls prog 192 #[.pointer (some ⟨b,0,none⟩)] w (qal lo a P b t ty (WrR M f d n p) g w):=by
 have hs:qa9 f.cls<=8:=by unfold qa9;repeat(first|split|omega)
 have H:=hid h;have c0:=h.c0;have c2:=h.box.c 2 rfl;have c3:=h.box.c 3 rfl;have c4:=h.box.c 4 rfl;have c5:=h.box.c 5 rfl;have c6:=h.box.c 6 rfl;have c18:=h.box.c 18 rfl;have c19:=h.box.c 19 rfl;have c20:=h.box.c 20 rfl;rw[hline]at c18;rw[hpiece]at c20;have hl:=h.box.lt;have TW:=hid (qg2 (h.ar.below (Below.refl _ _).drew) f.call hck hcv n p f.cls hk hp hn);have HP:=hid hpiece;obtain⟨q,hq⟩:∃q,q=p+1:=⟨_,rfl⟩;have hw1:IntKind.i64.wrap ((p:Int)+1)=(q:Int):=by rw[Go.IntWalk.i64_in _ (by omega)];omega
 have HQ:=hid hq;clear h hline hpiece hq;go_enter func192,ntmps192;go_upto_region 1 with fail;go_still_tail 20,(by kernel_rfl);change wpList _ _ _ _ _ (World.drew w);have H1:=hid H.out.drew;have HE1:Hid (ExtB lo b g g w w.drew):=hid (ExtB.below (Below.refl _ _).drew);generalize hw1:World.drew w=w1 at *;clear hw1 c0 c2 c3 c4 c5 c6 c18 c19 c20 hl H;go_wp2_with fail;refine TW.out.mono ?_;rintro r w2⟨rfl,g2,A2,E2⟩;have h2:=H1.out.ext A2 E2;have H2:=hid h2;have HE2:=hid (HE1.out.trans (.of_ext E2));have c20:=h2.box.c 20 rfl;rw[HP.out]at c20;have f20:=h2.box.fr 20;have c7:=h2.box.c 7 rfl;have f7:=h2.box.fr 7;have hl:=h2.box.lt;clear h2 A2 E2 TW H1 HE1;by_cases hlast:p+1=qa9 f.cls
 · have hd:decide (p+1=qa9 f.cls)=true:=decide_eq_true hlast
   rw[hd];have HL:=hid hlast;clear hd hlast;go_wp2_with fail;refine bodyPost_ret (v:=.tuple #[]) (by simp[results,results192]) rfl ⟨rfl,_,_,d,⟨rfl,rfl,.inl ⟨HL.out,rfl⟩⟩,g2,?_,((HE2.out.trans (ExtB.set 20 _)).trans (ExtB.set 20 _)).trans (ExtB.set 7 _)⟩;exact((H2.out.set 20 (.int .i64 (q:Int)) {f with piece:=(q:Int)} rfl ⟨rfl,rfl,rfl,rfl⟩).set 20 (.int .i64 0) {f with piece:=0} rfl ⟨rfl,rfl,rfl,rfl⟩).set 7 (.int .i64 5) {f with piece:=0,phase:=5} rfl ⟨rfl,rfl,rfl,rfl⟩
 · have hd:decide (p+1=qa9 f.cls)=false:=decide_eq_false hlast
   rw[hd];have HL:=hid hlast;clear hd hlast;go_wp2_with fail;refine bodyPost_ret (v:=.tuple #[]) (by simp[results,results192]) rfl ⟨rfl,_,_,d,⟨rfl,rfl,.inr ⟨HL.out,rfl⟩⟩,g2,?_,HE2.out.trans (ExtB.set 20 _)⟩;have:=HQ.out;subst this;exact H2.out.set 20 (.int .i64 ((p+1:Nat):Int)) {f with piece:=((p+1:Nat):Int)} rfl ⟨rfl,rfl,rfl,rfl⟩
end
end
section
open Go.RowKit
section
variable {g:Own8}{w:World}{lo a b t:Nat}{P:qag}{M:qa4}{ty:TypeId}{f:qa5}{d:FrD}
def FdT(M:qa4)(f:qa5)(d:FrD)(M':qa4)(f':qa5)(d':FrD):Prop:=
 (∃y,M.Q.head? =some y/\M'=M/\f'= {f with had:=true,old:=y,phase:=2,piece:=0,bA:=none,bn:=0,bc:=0}/\d'= {d with bs:=[]}) \/
 (M.Q.head? =none/\d'=d/\∃f4:qa5,((f.line<0/\M'=M/\f4= {f with had:=false,old:=qak})\/(¬f.line<0/\(∃S',qi6 M.S S'/\M'= {M with S:=S'})/\f4= {f with had:=false,old:=qak,line:= -1}))/\f'= {f4 with phase:=6})
theorem qpp(h:WSt g w lo a P M b t ty f d):Calls prog 189 #[.pointer (some ⟨b,0,none⟩)] w (qal lo a P b t ty (FdT M f d) g w):=by
 have H:=hid h;have c0:=h.c0;have hl:=h.box.lt;have TT:=hid (qme h.ar);have TH:Hid (Calls prog 251 #[.pointer (some ⟨P.lp,0,none⟩)] w λe w'=>e=.returned (.tuple #[.agg #[.string (M.Q.head?.getD qak).key,.int .u64 ((M.Q.head?.getD qak).id:Int),.int .u64 ((M.Q.head?.getD qak).ver:Int),.int .i64 (M.Q.head?.getD qak).line,.int .i64 (M.Q.head?.getD qak).cls],.bool M.Q.head?.isSome])/\Below w.heap.size w w'):=hid (by
  obtain⟨A,c,hq,_⟩:=h.ar.line
  exact qgh hq)
 obtain⟨y,hy⟩:∃y,y=M.Q.head?.getD qak:=⟨_,rfl⟩;obtain⟨ok,hok⟩:∃ok,ok=M.Q.head?.isSome:=⟨_,rfl⟩;rw[<-hy,<-hok]at TH;have HY:=hid hy;have HOK:=hid hok;clear h hy hok;go_enter func189,ntmps189;go_wp2_with fail;refine TT.out.mono ?_;rintro e w1⟨rfl,hw1⟩;rw[hw1];clear hw1;go_wp2_with fail;refine TH.out.mono ?_;rintro e w2⟨rfl,hb2⟩;have HB2:=hid hb2;clear hb2 TT TH c0 hl;go_upto_region 2 with fail;obtain⟨p,hp⟩:∃p,p=w2.heap.size:=⟨_,rfl⟩;rw[<-hp];generalize hw3:World.alloc _ _=w3;have hrow:w3.heap[p]? =some (.cells y.enc.toArray 85 (0,0)):=by rw[<-hw3,hp];exact qgr _ y _
 have b3:Below w.heap.size w w3:=by rw[<-hw3];exact HB2.out.alloc HB2.out.size _
 have hpb:p≠b:=by have:=HB2.out.size;have:=H.out.box.lt;omega
 have H3:=hid (H.out.below b3);have HE3:Hid (ExtB lo b g g w w3):=hid (ExtB.below b3);have hlx:=qa0 hrow;have k0:=cell_of_row w3 _ 0 _ _ _ hrow;have k1:=cell_of_row w3 _ 1 _ _ _ hrow;have k2:=cell_of_row w3 _ 2 _ _ _ hrow;have k3:=cell_of_row w3 _ 3 _ _ _ hrow;have k4:=cell_of_row w3 _ 4 _ _ _ hrow;simp only[qa3.enc,List.getElem?_toArray,List.getElem?_cons_zero,List.getElem?_cons_succ]at k0 k1 k2 k3 k4;have f12:=H3.out.box.fr 12;have f13:=H3.out.box.fr 13;have f14:=H3.out.box.fr 14;have f15:=H3.out.box.fr 15;have f16:=H3.out.box.fr 16;have f17:=H3.out.box.fr 17;have c12:=H3.out.box.c 12 rfl;have c13:=H3.out.box.c 13 rfl;have c14:=H3.out.box.c 14 rfl;have c15:=H3.out.box.c 15 rfl;have c16:=H3.out.box.c 16 rfl;have c17:=H3.out.box.c 17 rfl;have hl:=H3.out.box.lt;clear hw3 hrow b3 hp H HB2;go_region;generalize hw4:World.drew _=w4;have H4:Hid (WSt g w4 lo a P M b t ty {f with had:=ok,old:=y} d):=hid (by rw[<-hw4];exact((H3.out.set 12 (.bool ok) {f with had:=ok} rfl ⟨rfl,rfl,rfl,rfl⟩).setOld y).drew);have HE4:Hid (ExtB lo b g g w w4):=hid (by rw[<-hw4];exact((HE3.out.trans (ExtB.set 12 (.bool ok))).trans (ExtB.setOld y)).trans (ExtB.below (Below.refl _ _).drew));clear hw4 H3 HE3 c12 c13 c14 c15 c16 c17 f12 f13 f14 f15 f16 f17 k0 k1 k2 k3 k4 hl hlx;rcases Bool.eq_false_or_eq_true ok with hk|hk
 · subst hk
   have c7:=H4.out.box.c 7 rfl;have c20:=H4.out.box.c 20 rfl;have c21:=H4.out.box.c 21 rfl;have f7:=H4.out.box.fr 7;have f20:=H4.out.box.fr 20;have f21:=H4.out.box.fr 21;have hl:=H4.out.box.lt;obtain⟨z,hz⟩:=Option.isSome_iff_exists.1 HOK.out.symm;have hyz:y=z:=by rw[HY.out,hz];rfl
   have HZ:=hid hz;subst hyz;clear hz;go_wp2_with fail;refine bodyPost_ret (v:=.tuple #[]) (by simp[results,results189]) rfl ⟨rfl,M,_,_,.inl ⟨y,HZ.out,rfl,rfl,rfl⟩,g,?_,((HE4.out.trans (ExtB.set 7 _)).trans (ExtB.set 20 _)).trans (ExtB.set 21 _)⟩;exact((H4.out.set 7 (.int .i64 2) {f with had:=true,old:=y,phase:=2} rfl ⟨rfl,rfl,rfl,rfl⟩).set 20 (.int .i64 0) {f with had:=true,old:=y,phase:=2,piece:=0} rfl ⟨rfl,rfl,rfl,rfl⟩).noBytes
 · subst hk
   have hn:M.Q.head? =none:=by have:=HOK.out;rcases h:M.Q.head? with _|z;rfl;rw[h]at this;cases this
   have hyl:y=qak:=by rw[HY.out,hn];rfl
   subst hyl;have HN:=hid hn;have TK:=hid (qim H4.out);have c0:=H4.out.c0;have hl:=H4.out.box.lt;clear hn;go_wp2_with fail;refine TK.out.mono ?_;rintro r w5⟨rfl,M5,f5,d5,⟨rfl,hbk⟩,g5,h5,e5⟩;have HBK:=hid hbk;have H5:=hid h5;have HE5:=hid (HE4.out.trans e5);have c7:=h5.box.c 7 rfl;have f7:=h5.box.fr 7;have hl:=h5.box.lt;clear hbk h5 e5 TK;go_wp2_with fail;refine bodyPost_ret (v:=.tuple #[]) (by simp[results,results189]) rfl ⟨rfl,M5,_,_,.inr ⟨HN.out,rfl,f5,(by rcases HBK.out with h|⟨h1,h2⟩;exact .inl h;exact .inr ⟨Int.not_lt.2 h1,h2⟩),rfl⟩,g5,?_,HE5.out.trans (ExtB.set 7 _)⟩;exact H5.out.set 7 (.int .i64 6) {f5 with phase:=6} rfl ⟨rfl,rfl,rfl,rfl⟩
end
end
section
open Go.RowKit
section
variable {g:Own8}{w w':World}{lo a b t:Nat}{P:qag}{M:qa4}{ty:TypeId}{f:qa5}{d:FrD}
theorem WSt.newParts(h:WSt g w lo a P M b t ty f d)(hb:Below w.heap.size w w'){A:Option Addr}{c n':Nat}{ps':List qas}(hown:Own qas.enc 330 8 w' w.heap.size A c ps')(hn:n'=ps'.length)(hlo:lo<=w.heap.size):WSt g (w'.setCell ⟨b,23,none⟩ (.slice A n' c)) lo a P M b t ty {f with pA:=A,pn:=n',pc:=c} {d with ps:=ps'}:=by
 have hne:=h.hty.ne;have hl:=h.box.lt;have hfar:=h.ar.far;have h:=h.below hb;have hk:∀j,j≠b->(w'.setCell ⟨b,23,none⟩ (.slice A n' c)).heap[j]? =w'.heap[j]? :=λj hj=>Below.heap_setCell _ _ _ _ hj
 have hz:w'.heap.size<=(w'.setCell ⟨b,23,none⟩ (.slice A n' c)).heap.size:=by rw[World.size_setCell];exact Nat.le_refl _
 exact⟨h.ar.set0 h.gb 23 _,h.box.set 23 _ _ rfl,h.gb,h.hty,h.grp.keep hz (λj _ _ hj _=>hk j hj) λ_ _=>rfl,
  h.byt.keep (λj _ _ hr=>hk j λe=>h.byt.1.notBox h.box hne.1 (e ▸ hr)) λ_ _=>rfl,
  ⟨(hown.keep (w':=w'.setCell ⟨b,23,none⟩ (.slice A n' c)) λx _ _ hx _=>hk x (by omega)).lower hlo,hn,λj hj=>hfar j (qe4 hown j hj)⟩,
  h.hit.keep (λj _ _ hr=>hk j λe=>h.hit.1.notBox h.box hne.2.2 (e ▸ hr)) λ_ _=>rfl⟩
def qA9:qas:=⟨false,qak, -1,0⟩
def qyh(M:qa4)(t:Nat)(f:qa5)(d:FrD)(h0:Nat)(M':qa4)(f':qa5)(d':FrD):Prop:=
 (d'=d/\qe9 f.call d.gr≠0/\M'=M/\f'= {f with code:=qe9 f.call d.gr,phase:=7})\/(d'=d/\qe9 f.call d.gr=0/\h0≠0/\M'=M/\f'= {f with code:=7,phase:=7}) \/
 (d'= {d with ps:=List.replicate d.gr.length qA9}/\qe9 f.call d.gr=0/\h0=0/\M'= {M with H:=M.H.set t M.rnow}/\∃A c,f'= {f with ep:=M.now,pA:=A,pn:=d.gr.length,pc:=c,at':=0,phase:=1})
theorem qno(h:WSt g w lo a P M b t ty f d)(ht:t<M.H.length)(hg1:1<=d.gr.length)(hg2:d.gr.length<=1000)(hlo:lo<=w.heap.size):Calls prog 200 #[.pointer (some ⟨b,0,none⟩)] w (qal lo a P b t ty (qyh M t f d M.H[t]) g w):=by
 have H:=hid h;have c0:=h.c0;have c1:=h.c1;have hl:=h.box.lt;have TE:=hid (qg5 h.drew ht);generalize hh0:M.H[t]=h0 at *;clear h hh0;go_enter func200,ntmps200;go_upto_region 0 with fail;go_still_tail 11,(by kernel_rfl);change wpList _ _ _ _ _ (World.drew w);have HE1:Hid (ExtB lo b g g w w.drew):=hid (ExtB.below (Below.refl _ _).drew);generalize hw1:World.drew w=w1 at *;clear hw1 c0 c1 hl;go_wp2_with fail;refine TE.out.mono ?_;rintro r w2 (⟨h1,rfl,g2,W2,E2⟩|⟨h1,h2,rfl,g2,W2,E2⟩|⟨h1,h2,rfl,g2,W2,E2⟩)
 · have HW:=hid W2
   have HE:=hid E2;have H1:=hid h1;clear W2 E2 h1;go_wp2_with fail;exact bodyPost_ret (v:=.tuple #[]) (by simp[results,results200]) rfl ⟨rfl,M,_,d,(.inl ⟨rfl,H1.out,rfl,rfl⟩),g2,HW.out,HE1.out.trans HE.out⟩
 · have HW:=hid W2
   have HE:=hid E2;have H1:=hid h1;have H2:=hid h2;clear W2 E2 h1 h2;go_wp2_with fail;exact bodyPost_ret (v:=.tuple #[]) (by simp[results,results200]) rfl ⟨rfl,M,_,d,(.inr (.inl ⟨rfl,H1.out,H2.out,rfl,rfl⟩)),g2,HW.out,HE1.out.trans HE.out⟩
 · have HW:=hid W2
   have HE:=hid E2;have H1:=hid h1;have H2:=hid h2;have c7:=W2.box.c 7 rfl;have f7:=W2.box.fr 7;have hl:=W2.box.lt;have HE1':=hid (HE1.out.trans HE.out);have c6:=W2.box.c 6 rfl;have c23:=W2.box.c 23 rfl;have f23:=W2.box.fr 23;have hgn:=W2.grp.1.2.1;rw[hgn]at c6;have HLO:=hid (show lo<=w2.heap.size by have:=HE1'.out.only.size;omega);clear W2 E2 h1 h2 HE HE1 TE hgn;go_wp2_with fail;refine(qn6 qA9 w2.heap.size d.gr.length (w2.alloc _) ((qa2 _ _ _).trans (if_pos rfl)) hg1 (by omega)).mono ?_;rintro e w3⟨A,rfl,hown,hb3⟩;have b3:Below w2.heap.size w2 w3:=((Below.refl _ _).alloc (Nat.le_refl _) _).trans (hb3.mono (by simp));have hown3:=hown.lower (lo':=w2.heap.size) (by simp);have W3:=HW.out.below b3;have HN4:=hid (HW.out.newParts b3 hown3 (n':=d.gr.length) (by simp) HLO.out);have HE3:=hid (HE1'.out.trans (.below b3));have c23:=W3.box.c 23 rfl;have f23:=W3.box.fr 23;have hl:=W3.box.lt;clear W3 b3 hb3 hown hown3;go_upto_region 2 with fail;generalize hw4:World.setCell w3 _ _=w4 at *;have H4:=hid HN4.out;have HE4:Hid (ExtB lo b g g2 w w4):=hid (by rw[<-hw4];exact HE3.out.trans (ExtB.set 23 _));have c22:=H4.out.box.c 22 rfl;have c7:=H4.out.box.c 7 rfl;have f22:=H4.out.box.fr 22;have f7:=H4.out.box.fr 7;have hl:=H4.out.box.lt;clear hw4 HN4 HE3 c23 f23;go_wp2_with fail;refine bodyPost_ret (v:=.tuple #[]) (by simp[results,results200]) rfl ⟨rfl,_,_,_,.inr (.inr ⟨rfl,H1.out,H2.out,rfl,A,d.gr.length,rfl⟩),g2,?_,(HE4.out.trans (ExtB.set 22 _)).trans (ExtB.set 7 _)⟩;exact(H4.out.set 22 (.int .i64 0) {f with ep:=M.now,pA:=A,pn:=d.gr.length,pc:=d.gr.length,at':=0} rfl ⟨rfl,rfl,rfl,rfl⟩).set 7 (.int .i64 1) {f with ep:=M.now,pA:=A,pn:=d.gr.length,pc:=d.gr.length,at':=0,phase:=1} rfl ⟨rfl,rfl,rfl,rfl⟩
end
end
section
open Go.RowKit
def qg0:List Value:=[.func (.func 200) #[] #[],.func (.func 201) #[] #[],Value.nilFunc,.func (.func 202) #[] #[],.func (.func 203) #[] #[],.func (.func 204) #[] #[],.func (.func 205) #[] #[]]
theorem qfz:(prog.info? 301).map (·.size)=some 7:=by kernel_rfl
theorem qlu:∀v∈qg0,v.oneCell'=true:=by
 intro v hv;simp only[qg0,List.mem_cons,List.not_mem_nil,or_false]at hv;rcases hv with rfl|rfl|rfl|rfl|rfl|rfl|rfl <;> rfl
theorem qlt(w:World):Calls prog 143 #[] w λe w'=>e=.returned (.agg qg0.toArray)/\Below w.heap.size w w':=by
 go_enter func143,ntmps143;go_upto_region 1 with fail;generalize hw1:World.alloc _ _=w1;obtain⟨cur,R1,hcur⟩:∃cur,w1.heap[w.heap.size]? =some (.cells cur 301 (0,0))/\cur.size=7:=⟨_,by rw[<-hw1];exact(qa2 _ _ _).trans (if_pos rfl),rfl⟩;have HB1:Hid (Below w.heap.size w w1):=hid (by rw[<-hw1];exact(Below.refl _ _).alloc (Nat.le_refl _) _);have TH:=hid (qai R1 hcur);have hl1:=qa0 R1;have HAL:=hid (all_oneCell_toArray qlu);obtain⟨w2,hw2⟩:∃w2,w2=w1.setCells w.heap.size 0 qg0.toArray.toList:=⟨_,rfl⟩;have HW2:=hid hw2;have HRG:Hid (w2.rangeAt w.heap.size 0 qg0):=hid (by rw[hw2];exact World.rangeAt_setCells_same w1 w.heap.size 0 qg0 TH.out);have HB2:Hid (Below w.heap.size w w2):=hid (by rw[hw2];exact qae (Nat.le_refl _) _ _ _ HB1.out);clear hw1 hw2 R1 hcur;go_wp2_with(refine wpList_store_mid rfl 301 (.tmp 0) (.tmp 1) rfl w.heap.size 0 qg0.toArray (by first|rfl|simp[Act.eval]) (by first|rfl|simp[Act.eval,qg0]) TH.out qfz HAL.out ?_;rw[<-HW2.out]);refine bodyPost_ret (v:=.agg qg0.toArray) ?_ rfl ⟨rfl,HB2.out⟩;exact qah results143 _ _ w.heap.size qg0 _ rfl HRG.out underlying301 rfl qfz
theorem qia(w:World)(d t:Nat)(n:Nat){k r v}(h:prog.underlying t=some (.func k r v)):(Op.equalIn (d+1) t (.func (.func n) #[] #[]) .nilFunc).run prog w=.ok false w:=by
 simp[Op.equalIn,run_underlying h]
theorem qB0(n:Nat)(W:World):(binOp .eql 300 (.func (.func n) #[] #[]) Value.nilFunc).run prog W=.ok (.bool false) W:=by
 simp only[binOp];simp[Op.equal,Op.maxDepth,qia W 9999 300 n underlying300]
def grN:Nat->Nat
 |0=>200
 |1=>201
 |3=>202
 |4=>203
 |5=>204
 |_=>205
section
variable {g:Own8}{w:World}{a t:Nat}{P:qag}{M:qa4}
theorem qqd{R:qa5->FrD->qa4->qa5->FrD->Prop}(h:qa6 g w a P M)(f:qa5)(d:FrD)(hf:qbt w w.heap.size f d.gr d.bs d.ps d.hs)(hfit:quy d)(k:Nat)(hkk:f.call.kind=7)(hk2:k≠2)(hk7:k<7)(hph:f.phase=(k:Int))
 (hst:k=1\/k=3\/k=4->0<=f.at'/\f.at'<(d.gr.length:Int)/\d.ps.length=d.gr.length) (hst5:k=5->d.ps.length=d.gr.length)
 (HP:∀g1 W b lo f1 d1,qdm f d f1 d1->WSt g1 W lo a P M b t 299 f1 d1->lo<=W.heap.size->Calls prog (grN k) #[.pointer (some ⟨b,0,none⟩)] W (qal lo a P b t 299 (R f1 d1) g1 W))
 (HR:∀f1 d1 M' f' d',R f1 d1 M' f' d'->f'.call=f1.call/\d'.gr=d1.gr):Calls prog 112 #[.pointer (some ⟨a,0,none⟩),.int .i64 (t:Int),f.v] w (qcy a P R f d g w):=by
 have H:=hid h;have HF:=hid hf;have HFF:=hid hfit;have HHP:=hid HP;have HHR:=hid HR;have HV:=hid f.v_eq;have HPH:=hid hph;have HKI:=hid hkk;rw[HV.out];clear h hf hfit HP HR hph hkk;go_enter func112,ntmps112;go_upto_region 1 with fail;generalize hw1:World.alloc _ _=w1;have R0:w1.heap[w.heap.size]? =some (.cells f.enc.toArray 89 (0,0)):=by rw[<-hw1];exact(Below.heap_alloc _ _ _ (by simp)).trans ((qa2 _ _ _).trans (if_pos rfl))
 obtain⟨cur,R1,hcur⟩:∃cur,w1.heap[w.heap.size+1]? =some (.cells cur 89 (0,0))/\cur.size=28:=⟨_,by rw[<-hw1];exact(qa2 _ _ _).trans (if_pos (by simp)),rfl⟩;have b1:Below w.heap.size w w1:=by rw[<-hw1];exact((Below.refl _ _).alloc (Nat.le_refl _) _).alloc (by simp) _
 have hl0:=qa0 R0;have hl1:=qa0 R1;have HR0:=hid R0;have HR1:=hid R1;have HB1:=hid b1;have HC:=hid hcur;have HRA:=hid (qb5 R0);have TC:=hid (qg6 f d w1 ((HF.out.below b1).more b1.size) HFF.out);clear hw1 R0 R1 b1 hcur;go_upto_region 2 with(refine wpList_load_mid rfl 89 (.tmp 5) rfl w.heap.size 0 (by first|rfl|simp[Act.eval]) f.enc _ HRA.out underlying89 rfl qaf ?_);refine TC.out.mono ?_;rintro e w2⟨y,Mg,bA,bc,pA,pc,hA,hc,lo,rfl,hlo,hlo2,hcp,hb2,hgl⟩;have hsm:=And.intro hcp.sim hcp.sims;have hz1:=HB1.out.size;have R0:=qac hb2 hl0 HR0.out;have R1:=qac hb2 hl1 HR1.out;have hl12:=hl1;clear hl0 hl1 HR0 HR1;obtain⟨f1,hf1⟩:∃f1,f1=f.as y d bA bc pA pc hA hc:=⟨_,rfl⟩;obtain⟨d1,hd1⟩:∃d1:FrD,d1= {gr:=Mg,bs:=d.bs,ps:=d.ps,hs:=d.hs}:=⟨_,rfl⟩;have HST:Hid (∀w3,Below w2.heap.size w2 w3->qbq w3 w2.heap.size a t 299 f1->WSt g w3 lo a P M w2.heap.size t 299 f1 d1):=hid λw3 hb3 hw3=>by
  rw[hf1]at hw3 ⊢;rw[hd1];refine qgz H.out hcp (by omega) hlo2 ?_ (HB1.out.trans (hb2.mono hz1)) (.inr (.inr rfl)) hb3 hw3;rcases hgl with h0|⟨x,off,h1,h2⟩
  · exact .inl h0
  · exact .inr ⟨x,off,h1,by omega⟩
 have HSAME:Hid (qdm f d f1 d1):=hid ⟨⟨y,bA,bc,pA,pc,hA,hc,hf1,hsm.1⟩,by rw[hd1];exact hsm.2,by rw[hd1],by rw[hd1],by rw[hd1]⟩;have HGL:Hid (d1.gr=[]\/∃x off,f1.call.gA=some ⟨x,off,none⟩/\w.heap.size+2<=x):=hid (by
  rw[hf1,hd1]
  rcases hgl with h0|⟨x,off,h1,h2⟩
  · exact .inl h0
  · exact .inr ⟨x,off,h1,by omega⟩)
 have HLO:=hid (show w.heap.size<=lo/\lo<=w2.heap.size/\w.heap.size+1<lo by omega);have HB2:=hid (HB1.out.trans (hb2.mono HB1.out.size));rw[<-hf1,f1.v_eq];have hl0:=qa0 R0;have hl1:=qa0 R1;have HR0:=hid R0;have HR1:=hid R1;clear hcp hb2 hgl hsm hf1 hd1 hl12 TC R0 R1 HRA hlo hlo2 hz1 HB1;go_upto_region 2 with fail;generalize hw3:World.alloc _ _=w3;have R2:w3.heap[w2.heap.size]? =some (.cells (qi9 a t f1).toArray 299 (0,0)):=by rw[<-hw3];exact(qa2 _ _ _).trans (if_pos rfl)
 have b3:Below w2.heap.size w2 w3:=by rw[<-hw3];exact(Below.refl _ _).alloc (Nat.le_refl _) _
 have W3:=HST.out w3 b3 R2;have R0:=qac b3 hl0 HR0.out;have R1:=qac b3 hl1 HR1.out;clear hl0 hl1 HR0 HR1;have hm0:=qa0 R0;have hm1:=qa0 R1;have HR0:=hid R0;have HR1:=hid R1;have HW3:=hid W3;have HB3:=hid (HB2.out.trans (b3.mono HB2.out.size));have hz3:=b3.size;have hbl:=qa0 R2;have HLO3:=hid (show lo<=w3.heap.size by have:=HLO.out;omega);have HNE:=hid (show w.heap.size<w2.heap.size/\w.heap.size+1<w2.heap.size by have:=HLO.out;omega);generalize w2.heap.size=b at *;clear hw3 R2 b3 W3 R0 R1 HST HB2 hz3;go_wp2_with fail;refine(qlt w3).mono ?_;rintro e w4⟨rfl,hb4⟩;have HB4:=hid hb4;have HAL:=hid (all_oneCell_toArray qlu);clear hb4;go_upto_region 3 with(refine wpList_store_mid rfl 301 (.tmp 8) (.tmp 15) rfl w4.heap.size 0 qg0.toArray (by first|rfl|simp[Act.eval]) (by first|rfl|simp[Act.eval]) (qai ((qa2 _ _ _).trans (if_pos rfl)) rfl) qfz HAL.out ?_);generalize hw5:World.setCells _ _ _ _=w5;have HRG:Hid (w5.rangeAt w4.heap.size 0 qg0):=hid (by rw[<-hw5];exact World.rangeAt_setCells_same _ w4.heap.size 0 qg0 (qai ((qa2 _ _ _).trans (if_pos rfl)) rfl));have b5:Below w3.heap.size w3 w5:=by rw[<-hw5];exact qae HB4.out.size _ _ _ (HB4.out.alloc HB4.out.size _)
 have hz5:w4.heap.size<w5.heap.size:=by rw[<-hw5,(qam _ _ _ _).2.2.2];simp
 have R0:=qac b5 hm0 HR0.out;have R1:=qac b5 hm1 HR1.out;clear hm0 hm1 HR0 HR1;have hl0:=qa0 R0;have hl1:=qa0 R1;have HR0:=hid R0;have HR1:=hid R1;have HW5:=hid (HW3.out.below b5);have HB5:=hid (HB3.out.trans (b5.mono HB3.out.size));have HLO5:=hid (show lo<=w5.heap.size by have:=b5.size;have:=HLO3.out;omega);have k0:w5.cell? ⟨w.heap.size,0,none⟩=some (.int .i64 f.call.kind):=cell_of_row w5 _ 0 _ _ _ R0;have k5:w5.cell? ⟨w.heap.size,5,none⟩=some (.int .i64 (k:Int)):=by rw[<-HPH.out];exact cell_of_row w5 _ 5 _ _ _ R0
 have dd3:decide ((k:Int)<0)=false:=decide_eq_false (by omega);have dd4:decide (7<=(k:Int))=false:=decide_eq_false (by omega);have HKK:=hid (show(f.call.kind != 7)=false by rw[HKI.out];rfl);have HS1:Hid (f1.phase=(k:Int)/\(k=1\/k=3\/k=4->0<=f1.at'/\f1.at'<(f1.call.gn:Int)/\f1.pn=f1.call.gn)/\(k=5->f1.pn=f1.call.gn)):=hid (by
  obtain⟨y,bA,bc,pA,pc,hA,hc,he,hs⟩:=HSAME.out.eq
  have hgl:=HSAME.out.gr.1
  have hgn:=HW5.out.grp.1.2.1
  have hpn:=HW5.out.prt.2.1
  have hps:=HSAME.out.ps
  have e1:f1.at'=f.at':=by rw[he];rfl
  have e2:f1.phase=f.phase:=by rw[he];rfl
  rw[e1,e2,hgn,hpn,hps,hgl]
  exact⟨HPH.out,hst,hst5⟩)
 generalize w4.heap.size=q at *;clear hw5 b5 R0 R1 HB4 HB3 HW3 HLO3 hst hst5;simp only[Act.put];go_upto_region 3 with fail;have hq7:=HKK.out;have hfn:=qB0;go_cut [45] (λv45 wx=>v45=.bool false/\wx=w5)
 case first =>
  rcases k with _|_|_|_|_|_|_|k
  · have k5':w5.cell? ⟨w.heap.size,5,none⟩=some (.int .i64 0):=k5
    have kq:w5.cell? ⟨q,0,none⟩=some (.func (.func (grN 0)) #[] #[]):=by have:=HRG.out 0 _ rfl;rw[Nat.zero_add]at this;exact this
    have TS:=hid (qbx HW5.out 0 (by omega) HS1.out.1 HS1.out.2.1 HS1.out.2.2);clear k5;go_wp2_with fail;refine TS.out.mono ?_;rintro e w6⟨rfl,he⟩;rw[he];go_wp2_with fail;go_meet;exact⟨rfl,rfl⟩
  · have k5':w5.cell? ⟨w.heap.size,5,none⟩=some (.int .i64 1):=k5
    have kq:w5.cell? ⟨q,1,none⟩=some (.func (.func (grN 1)) #[] #[]):=by have:=HRG.out 1 _ rfl;rw[Nat.zero_add]at this;exact this
    have TS:=hid (qbx HW5.out 1 (by omega) HS1.out.1 HS1.out.2.1 HS1.out.2.2);clear k5;go_wp2_with fail;refine TS.out.mono ?_;rintro e w6⟨rfl,he⟩;rw[he];go_wp2_with fail;go_meet;exact⟨rfl,rfl⟩
  · exact absurd rfl hk2
  · have k5':w5.cell? ⟨w.heap.size,5,none⟩=some (.int .i64 3):=k5
    have kq:w5.cell? ⟨q,3,none⟩=some (.func (.func (grN 3)) #[] #[]):=by have:=HRG.out 3 _ rfl;rw[Nat.zero_add]at this;exact this
    have TS:=hid (qbx HW5.out 3 (by omega) HS1.out.1 HS1.out.2.1 HS1.out.2.2);clear k5;go_wp2_with fail;refine TS.out.mono ?_;rintro e w6⟨rfl,he⟩;rw[he];go_wp2_with fail;go_meet;exact⟨rfl,rfl⟩
  · have k5':w5.cell? ⟨w.heap.size,5,none⟩=some (.int .i64 4):=k5
    have kq:w5.cell? ⟨q,4,none⟩=some (.func (.func (grN 4)) #[] #[]):=by have:=HRG.out 4 _ rfl;rw[Nat.zero_add]at this;exact this
    have TS:=hid (qbx HW5.out 4 (by omega) HS1.out.1 HS1.out.2.1 HS1.out.2.2);clear k5;go_wp2_with fail;refine TS.out.mono ?_;rintro e w6⟨rfl,he⟩;rw[he];go_wp2_with fail;go_meet;exact⟨rfl,rfl⟩
  · have k5':w5.cell? ⟨w.heap.size,5,none⟩=some (.int .i64 5):=k5
    have kq:w5.cell? ⟨q,5,none⟩=some (.func (.func (grN 5)) #[] #[]):=by have:=HRG.out 5 _ rfl;rw[Nat.zero_add]at this;exact this
    have TS:=hid (qbx HW5.out 5 (by omega) HS1.out.1 HS1.out.2.1 HS1.out.2.2);clear k5;go_wp2_with fail;refine TS.out.mono ?_;rintro e w6⟨rfl,he⟩;rw[he];go_wp2_with fail;go_meet;exact⟨rfl,rfl⟩
  · have k5':w5.cell? ⟨w.heap.size,5,none⟩=some (.int .i64 6):=k5
    have kq:w5.cell? ⟨q,6,none⟩=some (.func (.func (grN 6)) #[] #[]):=by have:=HRG.out 6 _ rfl;rw[Nat.zero_add]at this;exact this
    have TS:=hid (qbx HW5.out 6 (by omega) HS1.out.1 HS1.out.2.1 HS1.out.2.2);clear k5;go_wp2_with fail;refine TS.out.mono ?_;rintro e w6⟨rfl,he⟩;rw[he];go_wp2_with fail;go_meet;exact⟨rfl,rfl⟩
  · omega
 obtain⟨rfl,hwc⟩:=hcut;rw[hwc];clear hwc;all_goals
  go_upto_region 5 with fail;go_cut [] (λwx=>∃M' f' d' g',R f1 d1 M' f' d'/\WSt g' wx lo a P M' b t 299 f' d'/\ExtB lo b g g' w5 wx)
  case first =>
   rcases k with _|_|_|_|_|_|_|k
   · have k5':w5.cell? ⟨w.heap.size,5,none⟩=some (.int .i64 0):=k5
     have kq:w5.cell? ⟨q,0,none⟩=some (.func (.func (grN 0)) #[] #[]):=by have:=HRG.out 0 _ rfl;rw[Nat.zero_add]at this;exact this
     have TP:=hid (HHP.out g w5 b lo f1 d1 HSAME.out HW5.out HLO5.out);clear k5;go_wp2_with fail;refine TP.out.mono ?_;rintro r w6⟨rfl,M',f',d',hr,g',h6,e6⟩;have HR6:=hid hr;have H6:=hid h6;have HE6:=hid e6;clear hr h6 e6 TP;go_wp2_with fail;go_meet;exact⟨M',f',d',g',HR6.out,H6.out,HE6.out⟩
   · have k5':w5.cell? ⟨w.heap.size,5,none⟩=some (.int .i64 1):=k5
     have kq:w5.cell? ⟨q,1,none⟩=some (.func (.func (grN 1)) #[] #[]):=by have:=HRG.out 1 _ rfl;rw[Nat.zero_add]at this;exact this
     have TP:=hid (HHP.out g w5 b lo f1 d1 HSAME.out HW5.out HLO5.out);clear k5;go_wp2_with fail;refine TP.out.mono ?_;rintro r w6⟨rfl,M',f',d',hr,g',h6,e6⟩;have HR6:=hid hr;have H6:=hid h6;have HE6:=hid e6;clear hr h6 e6 TP;go_wp2_with fail;go_meet;exact⟨M',f',d',g',HR6.out,H6.out,HE6.out⟩
   · exact absurd rfl hk2
   · have k5':w5.cell? ⟨w.heap.size,5,none⟩=some (.int .i64 3):=k5
     have kq:w5.cell? ⟨q,3,none⟩=some (.func (.func (grN 3)) #[] #[]):=by have:=HRG.out 3 _ rfl;rw[Nat.zero_add]at this;exact this
     have TP:=hid (HHP.out g w5 b lo f1 d1 HSAME.out HW5.out HLO5.out);clear k5;go_wp2_with fail;refine TP.out.mono ?_;rintro r w6⟨rfl,M',f',d',hr,g',h6,e6⟩;have HR6:=hid hr;have H6:=hid h6;have HE6:=hid e6;clear hr h6 e6 TP;go_wp2_with fail;go_meet;exact⟨M',f',d',g',HR6.out,H6.out,HE6.out⟩
   · have k5':w5.cell? ⟨w.heap.size,5,none⟩=some (.int .i64 4):=k5
     have kq:w5.cell? ⟨q,4,none⟩=some (.func (.func (grN 4)) #[] #[]):=by have:=HRG.out 4 _ rfl;rw[Nat.zero_add]at this;exact this
     have TP:=hid (HHP.out g w5 b lo f1 d1 HSAME.out HW5.out HLO5.out);clear k5;go_wp2_with fail;refine TP.out.mono ?_;rintro r w6⟨rfl,M',f',d',hr,g',h6,e6⟩;have HR6:=hid hr;have H6:=hid h6;have HE6:=hid e6;clear hr h6 e6 TP;go_wp2_with fail;go_meet;exact⟨M',f',d',g',HR6.out,H6.out,HE6.out⟩
   · have k5':w5.cell? ⟨w.heap.size,5,none⟩=some (.int .i64 5):=k5
     have kq:w5.cell? ⟨q,5,none⟩=some (.func (.func (grN 5)) #[] #[]):=by have:=HRG.out 5 _ rfl;rw[Nat.zero_add]at this;exact this
     have TP:=hid (HHP.out g w5 b lo f1 d1 HSAME.out HW5.out HLO5.out);clear k5;go_wp2_with fail;refine TP.out.mono ?_;rintro r w6⟨rfl,M',f',d',hr,g',h6,e6⟩;have HR6:=hid hr;have H6:=hid h6;have HE6:=hid e6;clear hr h6 e6 TP;go_wp2_with fail;go_meet;exact⟨M',f',d',g',HR6.out,H6.out,HE6.out⟩
   · have k5':w5.cell? ⟨w.heap.size,5,none⟩=some (.int .i64 6):=k5
     have kq:w5.cell? ⟨q,6,none⟩=some (.func (.func (grN 6)) #[] #[]):=by have:=HRG.out 6 _ rfl;rw[Nat.zero_add]at this;exact this
     have TP:=hid (HHP.out g w5 b lo f1 d1 HSAME.out HW5.out HLO5.out);clear k5;go_wp2_with fail;refine TP.out.mono ?_;rintro r w6⟨rfl,M',f',d',hr,g',h6,e6⟩;have HR6:=hid hr;have H6:=hid h6;have HE6:=hid e6;clear hr h6 e6 TP;go_wp2_with fail;go_meet;exact⟨M',f',d',g',HR6.out,H6.out,HE6.out⟩
   · omega
  obtain⟨M',f',d',g',hr,h6,e6⟩:=hcut;obtain⟨w6,hw6⟩:∃x,x=wc:=⟨_,rfl⟩;subst hw6;have hb6:=e6.only.size;have hr1:w6.heap[w.heap.size+1]? =w5.heap[w.heap.size+1]? :=e6.only.block _ hl1 (by have:=H.out.far (w.heap.size+1) (by omega);have:=HLO.out;have:=HNE.out;omega);have hg1:g' (w.heap.size+1)=0:=(e6.old _ hl1).trans (H.out.far _ (by omega));have R1:=hr1.trans HR1.out;have TH:=hid (qai R1 HC.out);have HRA:=hid h6.box.range;have HALF:=hid (all_oneCell_toArray f'.enc_one);obtain⟨hcall,hdgr⟩:=HHR.out _ _ _ _ _ hr;have F6:FrAt (λx=>g' x=0/\w.heap.size+2<=x) w6 f' d':=qjh h6 _ (by have:=HLO.out;omega) (by rw[hcall,hdgr];exact HGL.out);obtain⟨w7,hw7⟩:∃w7,w7=w6.setCells (w.heap.size+1) 0 f'.enc.toArray.toList:=⟨_,rfl⟩;have HW7:=hid hw7;have HRG7:Hid (w7.rangeAt (w.heap.size+1) 0 f'.enc):=hid (by rw[hw7];exact World.rangeAt_setCells_same w6 (w.heap.size+1) 0 f'.enc TH.out);have HA7:Hid (qa6 g' w7 a P M'):=hid (by rw[hw7];exact h6.ar.sets0 hg1 0 _);have HE6:Ext g g' w w6:=ExtB.ext (Ext.below HB5.out) e6 (by have:=HNE.out;omega) (by have:=HLO.out;omega);have HE7:Hid (Ext g g' w w7):=hid (ExtB.ext (lo:=w.heap.size) (b:=w.heap.size+1) HE6 (by rw[hw7];exact ExtB.sets 0 _) (by omega) (Nat.le_refl _));have HF7:Hid (FrAt (λx=>g' x=0/\w.heap.size<=x) w7 f' d'):=hid ((F6.keep (w':=w7) (by rw[hw7,(qam _ _ _ _).2.2.2];exact Nat.le_refl _) (λx _ hx=>by rw[hw7];exact qaa _ _ _ _ _ (by omega))).mono λx hx=>⟨hx.1,by omega⟩);have HR6:=hid hr;clear hw7 HE6 F6 hcall hdgr R1 hr1 hg1 hr h6 e6 hb6 dd3 dd4 k5 HRG;go_wp2_with(first|(refine wpList_load_mid rfl 89 (.tmp 58) rfl b 2 (by first|rfl|simp[Act.eval]) f'.enc _ HRA.out underlying89 rfl qaf ?_)|(refine wpList_store_mid rfl 89 (.tmp 6) (.tmp 59) rfl (w.heap.size+1) 0 f'.enc.toArray (by first|rfl|simp[Act.eval]) (by first|rfl|simp[Act.eval]) TH.out qaf HALF.out ?_;rw[<-HW7.out]));refine bodyPost_ret (v:=f'.v) ?_ rfl ⟨f1,d1,M',f',d',g',rfl,HSAME.out,HR6.out,HA7.out,HE7.out,HF7.out⟩;exact qah results112 _ _ (w.heap.size+1) _ _ rfl HRG7.out underlying89 rfl qaf
end
end
end Go.Proofs.YtecikkjbnkhhkaaGreat
