/- A part of the walk. -/
import Derived.Test.YtecikkjbnkhhkaaGreatP51
import Derived.Test.YtecikkjbnkhhkaaGreatP53
namespace Go.Proofs.YtecikkjbnkhhkaaGreat
open _root_.Go.Proofs.Tryz
set_option maxHeartbeats 8000000
set_option maxRecDepth 100000
section
open Go.RowKit
section
variable {g:Own8}{w:World}{wb a th s x y:Nat}{P:qag}{r:Option Nat}
theorem WInL.below{w':World}(h:WInL wb a P th s x y g w r)(hb:Below w.heap.size w w'):WInL wb a P th s x y g w' r:=by
 obtain⟨M,T,D,steps,sA,sc,S,c,h1,h2,hw,h3⟩:=h;exact⟨M,T,D,steps,sA,sc,S,c,h1,h2,hw.below hb,h3⟩
theorem qFm(h:WInL wb a P th s x y g w r)(hs:s<=1000)(hth:th<=4)(h1th:1<=th)(e:EvC){w0:World}{lo:Nat}{q:Prop}(hok:EvOK q w0 lo th e)(hk:∀j,lo<=j->j<w0.heap.size->w.heap[j]? =w0.heap[j]? /\KW g w.heap.size wb r j)(hz:w0.heap.size<=w.heap.size)(h5:¬q):
 Calls prog 14 #[.pointer (some ⟨wb,0,none⟩),.agg #[.int .i64 e.k,.int .i64 e.t,.int .i64 e.l,.int .i64 e.cl.kind,.string e.cl.key,.string e.cl.val,.string e.cl.tx,.slice e.cl.gA e.cl.gn e.cl.gc,.slice e.kA e.kn e.kc]] w (qCe wb a P th (s+1) x y r g w):=by
 obtain⟨k,t,l,cl,kA,kn,kc⟩:=e;have hkd:k=1\/k=2\/k=3\/k=4\/k=5:=hok.kd;have h5:¬k=5:=λh0=>h5 (hok.cut h0)
 simp only;rcases(by omega:k=1\/k=2\/k=3\/k=4)with rfl|rfl|rfl|rfl
 · obtain⟨⟨t',ht,htl⟩,G,hc⟩:=hok.call rfl
   simp only at ht hc;subst ht;refine qDq h hs hth t' htl l cl kA kn kc hc (hc.inn.kept hc.new (λx h1 h2=>(hk x h1 h2).1) hz) ?_;rcases hc.new with h0|⟨x,off,hA,hx⟩
   · exact .inl h0
   · rcases hc.inn.arr with h0|⟨b,o,hA',hb,_⟩
     · exact .inl h0
     · rw[hA]at hA'
       cases hA'
       exact .inr ⟨x,off,hA,(hk x hx hb).2⟩
 · obtain⟨t',ht,htl⟩:=hok.step rfl
   simp only at ht;subst ht;exact qDo h hs hth t' htl l cl kA kn kc
 · exact qDp h hs h1th t l cl kA kn kc
 · exact qDr h hs t l cl kA kn kc
theorem qF3{g':Own8}{w3 w':World}{r':Option Nat}(h:WInL wb a P th s x y g w r)(hk:qaz g w3 wb r g' w' r'):∀j,w.heap.size<=j->j<w3.heap.size->w'.heap[j]? =w3.heap[j]? /\KW g' w'.heap.size wb r' j:=by
 obtain⟨M,T,D,steps,sA,sc,S,c,_,_,hw,hr,_⟩:=h;intro j h1 h2;have hl:=hw.bx.lt;refine hk.blk j ⟨h2,hw.ar.far j h1,by omega,λe=>?_⟩;rw[hr]at e;have:=qfp hw.st.1 e;omega
theorem qEo{nn rs:Nat}(hn:18<=nn)(h:WAt g w wb a P (newM nn th) ⟨nn,th,(rs:Int),0,(rs:Int),0⟩ (List.replicate 4 thr0) (λ_=>d0) 0 none 0 []):WInL wb a P th 0 1 0 g w none:=
 ⟨newM nn th,List.replicate 4 thr0,λ_=>d0,0,none,0,[],_,rfl,.inl rfl,h,rfl,⟨qsa hn,.inl ⟨rfl,rfl⟩,⟨Nat.zero_le _,λ_ h=>by cases h⟩,Nat.le_refl _,Nat.le_refl _,λi hi=>.inl (qrn i hi),Nat.le_refl _⟩,rfl,rfl,by decide,by decide⟩
theorem qFo(lines rest:Int):∃nn th rs:Nat,cfgV lines rest=.agg #[.int .i64 (nn:Int),.int .i64 (th:Int),.int .i64 (rs:Int)]/\18<=nn/\nn<=250/\2<=th/\th<=4/\rs<=10000:=by
 obtain⟨k,e,hk⟩:=qd5 lines 4 (by decide);obtain⟨k2,e2,hk2⟩:=qd5 rest 2 (by decide);obtain⟨k3,e3,hk3⟩:=qd5 rest 8 (by decide);refine⟨18+8*k,2+k2,k3,?_,by omega,by omega,by omega,by omega,by omega⟩;unfold cfgV;rw[e,e2,e3,show(18:Int)+8*(k:Int)=((18+8*k:Nat):Int)by omega,show(2:Int)+(k2:Int)=((2+k2:Nat):Int)by omega]
theorem WInL.now(h:WInL wb a P th s x y g w r):Calls prog 22 #[.pointer (some ⟨wb,0,none⟩)] w λe w'=>e=.returned (.int .u64 (x:Int))/\w'=w:=by
 obtain⟨M,T,D,steps,sA,sc,S,c,_,_,hw,_,_,rfl,_⟩:=h;exact qv4 hw
theorem WInL.dur(h:WInL wb a P th s x y g w r):Calls prog 23 #[.pointer (some ⟨wb,0,none⟩)] w λe w'=>e=.returned (.int .u64 (y:Int))/\w'=w:=by
 obtain⟨M,T,D,steps,sA,sc,S,c,_,_,hw,_,_,_,rfl,_⟩:=h;exact qv5 hw
theorem WInL.lag(h:WInL wb a P th s x y g w r):y+1<=x/\x<=y+2/\x<=s+1:=by
 obtain⟨M,T,D,steps,sA,sc,S,c,_,_,_,_,q,rfl,rfl,_⟩:=h;have:=q.clk.lag;exact⟨this.1,this.2,q.now⟩
end
end
section
open Go.RowKit
def TlO(n wb a th:Nat)(P:qag)(g1:Own8)(w1:World)(v10 v11 v12:Value)(wr:World):Prop:=∃k x y:Nat,k<=n/\v10=.int .u64 (x:Int)/\v11=.int .u64 (y:Int)/\v12=.int .i64 k/\∃s g r,s<=7*k/\WInL wb a P th s x y g wr r/\qaz g1 w1 wb none g wr r
def TlI(n j wb a th:Nat)(P:qag)(g3:Own8)(w3:World)(r3:Option Nat)(v10 v11 v14:Value)(wr:World):Prop:=∃k x y:Nat,k<=n/\v10=.int .u64 (x:Int)/\v11=.int .u64 (y:Int)/\v14=.int .i64 k/\∃s g r,s<=7*j+k/\WInL wb a P th s x y g wr r/\qaz g3 w3 wb r3 g wr r
theorem qDk(lines rest:Int)(l:List qem)(A:Option Addr)(c:Nat)(w:World)(hA:Arr qem.enc 5 w w.heap.size A l)(hc:l.length<=c)(hm:c<=9223372036854775807):Calls prog 5 #[.int .i64 lines,.int .i64 rest,.slice A l.length c] w (quw w):=by
 have TL:=hid (qso l A c 120 w hA hc hm);have TA:=hid (λW=>qtx W);obtain⟨nn,th,rs,hcfg,hn1,hn2,ht1,ht2,hrs⟩:=qFo lines rest;have TC:=qqr lines rest w;rw[hcfg]at TC;have HTC:=hid TC;have TN:=hid (λW=>qog nn th (rs:Int) W hn1 hn2 (by omega) ht2 ⟨by omega,by omega⟩);have HA:=hid hA;clear TC hA hcfg;go_enter func5,ntmps5;go_wp2_with fail;refine TL.out.mono ?_;rintro e w2⟨big,rfl,he,hbig⟩;rw[he];clear he TL;cases big with
 |true =>
  go_wp2_with fail;refine(TA.out w).mono ?_;rintro e w3⟨rfl,hb3⟩;go_wp2_with fail;go_ret;exact⟨rfl,hb3⟩
 |false =>
  have hl120:=hbig rfl;clear hbig;have hl120:l.length<=120:=by omega
  go_wp2_with fail;refine HTC.out.mono ?_;rintro e w3⟨rfl,hb3⟩;have HB3:=hid hb3;clear hb3 HTC;go_upto_region 4 with fail;generalize hw4:World.alloc _ _=w4;have R4:w4.heap[w3.heap.size]? =some (.cells #[.int .i64 (nn:Int),.int .i64 (th:Int),.int .i64 (rs:Int)] 27 (0,0)):=by rw[<-hw4];exact qaq _ _
  have b4:Below w3.heap.size w3 w4:=by rw[<-hw4];exact(Below.refl _ _).alloc (Nat.le_refl _) _
  have HB4:=hid (HB3.out.trans (b4.mono HB3.out.size));have k0:=cell_of_row w4 _ 0 _ _ _ R4;have k1:=cell_of_row w4 _ 1 _ _ _ R4;have k2:=cell_of_row w4 _ 2 _ _ _ R4;have hl4:=qa0 R4;have HR4:=hid R4;clear hw4 b4 R4;go_wp2_with fail;refine(TN.out w4).mono ?_;rintro e w5⟨wb,a,P,g,rfl,hw5,hb5,hwb,hg⟩;have HW:=hid (qEo hn1 hw5);have HB:=hid (And.intro hb5 hg);clear hw5 hb5 hg TN k0 k1 k2;go_wp2_with fail;refine HW.out.now.mono ?_;rintro e w6⟨rfl,he⟩;rw[he];clear he;go_wp2_with fail;refine HW.out.dur.mono ?_;rintro e w6⟨rfl,he⟩;rw[he];clear he;go_wp2_with fail;go_loopw [10,11,12] (λv10 v11 v12 wr=>TlO l.length wb a th P g w5 v10 v11 v12 wr) (λ_ _ v12 _=>l.length-(intOf v12).toNat)
  case atStart=>exact⟨0,1,0,Nat.zero_le _,rfl,rfl,rfl,0,g,none,Nat.le_refl _,HW.out,qaz.refl _ _ _ _⟩
  case round =>
   obtain⟨k,x,y,hk,rfl,rfl,rfl,s,g1,r1,hs,hin,hkp⟩:=hrel;obtain⟨wo,hwo⟩:∃x,x=wr:=⟨_,rfl⟩;subst hwo;have HIN:=hid hin;have HKP:=hid hkp;have hbl:=qiz HB.out.1 HB.out.2 hwb hkp;have R4':=(hbl.block _ hl4).trans HR4.out;have q1:=cell_of_row wo _ 1 _ _ _ R4';have hlr:=qa0 R4';have HBL:=hid (HB4.out.trans (hbl.mono HB4.out.size));clear hin hkp hbl R4';by_cases hlt:k<l.length
   · have hki:(k:Int)<(l.length:Int):=by omega
     obtain⟨pb,off,rfl,hpb,p0,p1,p2,p3,p4⟩:=(HA.out.below HBL.out).pick hlt;have hpr:pb<wo.heap.size:=by have:=HBL.out.size;omega
     have TE:=hid (λW=>qqm l[k] th W (by omega) ht2);obtain⟨dn,hdn⟩:∃dn,dn=l[k].dn:=⟨_,rfl⟩;rw[<-hdn]at p0 TE;have HDN:=hid hdn;clear hdn;by_cases h4:dn=4
     · have d4:(dn==4)=true:=beq_iff_eq.2 h4
       clear h4;go_wp2_with fail;exact⟨⟨k+1,x,y,by omega,rfl,rfl,by go_num,s,g1,r1,by omega,HIN.out,HKP.out⟩,by show l.length-((k:Int)+1).toNat<l.length-(k:Int).toNat;omega⟩
     · have d4:(dn==4)=false:=beq_eq_false_iff_ne.2 h4
       have HN4:=hid h4;clear h4;go_upto_region 12 with fail;go_still_tail 6,(by kernel_rfl);change wpList _ _ _ _ _ (World.drew wo);obtain⟨w6,hw6⟩:∃x,x=World.drew wo:=⟨_,rfl⟩;rw[<-hw6];have HD6:=hid (show Below wo.heap.size wo w6 by rw[hw6];exact(Below.refl _ _).drew);clear hw6 p0 p1 p2 p3 p4 q1;go_wp2_with fail;refine(TE.out w6).mono ?_;rintro e w7⟨A7,c7,es,rfl,harr,hec,hcm,hel,hb7,hnew,hok⟩;have HE:=hid (And.intro harr hnew);have HOK:=hid hok;have HB7:=hid (HD6.out.trans (hb7.mono HD6.out.size));have HK7:=hid (HKP.out.trans (qaz.below HB7.out));have HIN7:=hid (HIN.out.below HB7.out);have hz67:wo.heap.size<=w6.heap.size:=HD6.out.size;clear harr hnew hok hb7 TE;go_wp2_with fail;go_loopw [10,11,14] (λv10 v11 v14 wq=>TlI es.length k wb a th P g1 w7 r1 v10 v11 v14 wq) (λ_ _ v14 _=>es.length-(intOf v14).toNat)
       case atStart=>exact⟨0,x,y,Nat.zero_le _,rfl,rfl,rfl,s,g1,r1,by omega,HIN7.out,qaz.refl _ _ _ _⟩
       case round =>
        obtain⟨k2,x2,y2,hk2,rfl,rfl,rfl,s2,g2,r2,hs2,hin2,hkp2⟩:=hrel;have HIN2:=hid hin2;have HKP2:=hid hkp2;clear hin2 hkp2;by_cases hlt2:k2<es.length
        · have hki2:(k2:Int)<(es.length:Int):=by omega
          have hnk:=qF3 HIN.out HKP2.out;obtain⟨xb,xo,hxA,hxl,e0,e1,e2,e3,e4,e5,e6,e7,e8⟩:=HE.out.1.ev hlt2;have hxg:wo.heap.size<=xb:=by
           rcases HE.out.2 with h|⟨z,off,hA,hz⟩
           · rw[h]at hlt2;exact absurd hlt2 (Nat.not_lt_zero _)
           · rw[hA]at hxA;cases hxA;omega
          have hsame:=(hnk xb hxg hxl).1;have hev:=HOK.out es[k2] (List.getElem_mem hlt2);obtain⟨ev,hE⟩:∃ev,ev=es[k2]:=⟨_,rfl⟩;rw[<-hE]at e0 e1 e2 e3 e4 e5 e6 e7 e8 hev;have e0:=(qaj (p:=⟨xb,_,none⟩) hsame).trans e0;have e1:=(qaj (p:=⟨xb,_,none⟩) hsame).trans e1;have e2:=(qaj (p:=⟨xb,_,none⟩) hsame).trans e2;have e3:=(qaj (p:=⟨xb,_,none⟩) hsame).trans e3;have e4:=(qaj (p:=⟨xb,_,none⟩) hsame).trans e4;have e5:=(qaj (p:=⟨xb,_,none⟩) hsame).trans e5;have e6:=(qaj (p:=⟨xb,_,none⟩) hsame).trans e6;have e7:=(qaj (p:=⟨xb,_,none⟩) hsame).trans e7;have e8:=(qaj (p:=⟨xb,_,none⟩) hsame).trans e8;have hzq:w7.heap.size<=wr.heap.size:=HKP2.out.same.2.2.2;have HDO:=hid (qFm HIN2.out (by omega) ht2 (by omega) ev hev (λj h1 h2=>hnk j (by omega) h2) hzq HN4.out);subst hxA;clear hE hev hnk hsame;go_wp2_with fail;refine HDO.out.mono ?_;rintro e w9⟨code,rfl,g9,r9,x9,y9,hx9,hy9,hin9,hk9⟩;have HIN9:=hid hin9;have HK9:=hid (HKP2.out.trans hk9);obtain⟨l1,l2,l3⟩:=hin9.lag;clear hin9 hk9 e0 e1 e2 e3 e4 e5 e6 e7 e8;go_wp2_with fail;refine HIN9.out.now.mono ?_;rintro e w10⟨rfl,he⟩;rw[he];clear he;go_wp2_with fail;refine HIN9.out.dur.mono ?_;rintro e w10⟨rfl,he⟩;rw[he];clear he;have u1:IntKind.u64.wrap ((y9:Int)+1)=(y9:Int)+1:=by rw[IntKind.wrap_u64];omega
          have u2:IntKind.u64.wrap ((y9:Int)+2)=(y9:Int)+2:=by rw[IntKind.wrap_u64];omega
          have n1:¬x9<x2:=by omega
          have n2:¬y9<y2:=by omega
          have n3:¬(x9:Int)<(y9:Int)+1:=by omega
          have n4:¬(y9:Int)+2<(x9:Int):=by omega
          go_wp2_with fail;exact⟨⟨k2+1,x9,y9,by omega,rfl,rfl,by go_num,s2+1,g9,r9,by omega,HIN9.out,HK9.out⟩,by show es.length-((k2:Int)+1).toNat<es.length-(k2:Int).toNat;omega⟩
        · have hki2:¬(k2:Int)<(es.length:Int):=by omega
          go_wp2_with fail;exact⟨⟨k+1,x2,y2,by omega,rfl,rfl,by go_num,s2,g2,r2,by omega,HIN2.out,HK7.out.trans HKP2.out⟩,by show l.length-((k:Int)+1).toNat<l.length-(k:Int).toNat;omega⟩
   · have hki:¬(k:Int)<(l.length:Int):=by omega
     go_wp2_with fail;refine(TA.out wo).mono ?_;rintro e w6⟨rfl,hb6⟩;go_wp2_with fail;go_ret;exact⟨rfl,HBL.out.trans (hb6.mono HBL.out.size)⟩
end
end Go.Proofs.YtecikkjbnkhhkaaGreat
