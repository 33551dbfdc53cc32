/- A part of the walk. -/
import Derived.Test.YtecikkjbnkhhkaaGreatP26
import Derived.Test.YtecikkjbnkhhkaaGreatP28
namespace Go.Proofs.YtecikkjbnkhhkaaGreat
open _root_.Go.Proofs.Tryz
set_option maxHeartbeats 8000000
set_option maxRecDepth 100000
section
open Go.RowKit
section
variable {g:Own8}{w:World}{a:Nat}{P:qag}{M:qa4}
theorem qqx(h:qa6 g w a P M)(t e grp n:Nat)(x:ChgC)(hp:qml M t e n x)(hg:grp<=1000000):
 Calls prog 309 #[.pointer (some ⟨a,0,none⟩),.int .i64 (t:Int),.int .u64 (e:Int),x.v,.int .u64 (grp:Int)] w (qod a P M x e grp n g w):=by
 have H:=hid h;have HP:=hid hp;have hver:=hp.ver;have HXV:=hid x.v_eq;rw[HXV.out];clear h hp;go_enter func309,ntmps309;go_upto_region 1 with fail;obtain⟨vb,hvb⟩:∃vb,vb=w.heap.size:=⟨_,rfl⟩;generalize hw1:World.alloc _ _=w1;have R0:w1.heap[vb]? =some (.cells x.enc.toArray 376 (0,0)):=by rw[<-hw1,hvb];exact qea _ x _
 have b1:Below w.heap.size w w1:=by rw[<-hw1];exact(Below.refl _ _).alloc (Nat.le_refl _) _
 have N1:NobR g w1 vb 376 x.enc:=⟨R0,by rw[hvb];exact H.out.far _ (Nat.le_refl _)⟩;have H1:=hid (H.out.below b1);have hl0:=qa0 R0;have HN1:=hid N1;have HB1:=hid b1;have hla:=qa0 H1.out.box.1;rw[<-hvb];clear hw1 R0 b1 N1 hvb;go_wp2_with fail;refine(qxe H1.out hver).mono ?_;rintro r w2⟨rfl,g2,A2,E2⟩;have N2:=HN1.out.ext E2;have HN2:=hid N2;have H2:=hid A2;have HE2:=hid ((Ext.below HB1.out).trans E2);obtain⟨c0,c1,c2,c3,c4,c5,c6,c7,c8,c9,cA⟩:=ChgC.cells N2.1;have hl0:=N2.lt;have hla:=qa0 A2.box.1;obtain⟨ver,hver1⟩:∃ver,ver=M.ver+1:=⟨_,rfl⟩;rw[<-hver1];have HVER:=hid hver1;clear N2 A2 E2 HN1 H1 HB1 hver1;go_upto_region 3 with fail;go_cut [39] (λv39 wx=>v39=.bool (qdk x)/\wx=w2)
 case first =>
  cases h4:(x.kind==4)with
  |true =>
   have HA:=hid (show qdk x=true by rw[qdk,h4];rfl);go_wp2_with fail;go_meet;exact⟨by rw[HA.out],rfl⟩
  |false =>
   cases h2:(x.kind==2)with
   |false =>
    have HA:=hid (show qdk x=false by rw[qdk,h4,h2];rfl);go_wp2_with fail;go_meet;exact⟨by rw[HA.out],rfl⟩
   |true =>
    have HA:=hid (show qdk x= !x.had by rw[qdk,h4,h2];rfl);go_wp2_with fail;go_meet;exact⟨by rw[HA.out],rfl⟩
 obtain⟨rfl,hwc⟩:=hcut;rw[hwc];clear hwc;go_upto_if 39 with fail;go_cut [12] (λv12 wx=>v12=.int .u64 (chId M x:Int)/\∃g3,qa6 g3 wx a P {M with id:=qkj M x,ver:=M.ver+1}/\Ext g2 g3 w2 wx)
 case first =>
  have hid1:=HP.out.id;cases ha:qdk x with
  |true =>
   have HA:=hid ha;clear ha;go_wp2_with fail;refine(qzu H2.out hid1).mono ?_;rintro r w3⟨rfl,g3,A3,E3⟩;have HA3:=hid A3;have HE3:=hid E3;clear A3 E3;go_wp2_with fail;go_meet;exact⟨by rw[chId,if_pos HA.out];rfl,g3,by rw[qkj,if_pos HA.out];exact HA3.out,HE3.out⟩
  |false =>
   have HA:=hid ha;clear ha;go_wp2_with fail;go_meet;exact⟨by rw[chId,if_neg (by rw[HA.out];decide)],g2,by rw[qkj,if_neg (by rw[HA.out];decide)];exact H2.out,Ext.refl _ _⟩
 obtain⟨rfl,g3,A3,E3⟩:=hcut;obtain⟨w3,hw3⟩:∃x,x=wc:=⟨_,rfl⟩;subst hw3;have N3:=HN2.out.ext E3;have H3:=hid A3;have HE3:=hid (HE2.out.trans E3);have HN3:=hid N3;obtain⟨id,hid1⟩:∃id,id=chId M x:=⟨_,rfl⟩;obtain⟨gr,hgr⟩:∃gr,gr=qel M grp:=⟨_,rfl⟩;rw[<-hid1];have HID:=hid hid1;have HGR:=hid hgr;clear hid1 E3 A3 N3 HN2 HE2 H2 hgr c0 c1 c2 c3 c4 c5 c6 c7 c8 c9 cA hl0 hla;go_upto_if 45 with fail;go_cut [4] (λv4 wx=>v4=.int .u64 (gr:Int)/\wx=w3)
 case first =>
  by_cases hg0:grp=0
  · have hb:((grp:Int)==0)=true:=by rw[beq_iff_eq];omega
    have HG:=hid hg0;clear hg0;go_wp2_with fail;go_meet;exact⟨by rw[HGR.out,qel,if_pos HG.out,HVER.out],rfl⟩
  · have hb:((grp:Int)==0)=false:=by rw[beq_eq_false_iff_ne];omega
    have HG:=hid hg0;clear hg0;go_wp2_with fail;go_meet;exact⟨by rw[HGR.out,qel,if_neg HG.out],rfl⟩
 obtain⟨rfl,hwc⟩:=hcut;rw[hwc];clear hwc;obtain⟨c0,c1,c2,c3,c4,c5,c6,c7,c8,c9,cA⟩:=ChgC.cells HN3.out.1;have hl0:=HN3.out.lt;go_wp2_with fail;have TL:=qoz x id ver e w3;rw[HXV.out]at TL;refine TL.mono ?_;rintro r w4⟨rfl,hb4⟩;obtain⟨y,hy⟩:∃y,y=qda M x e:=⟨_,rfl⟩;rw[show qca x id ver e=y by rw[hy,qda,HID.out,HVER.out]];have HYV:=hid (show y.v=.agg #[.int .i64 y.cls,.int .i64 y.kind,.int .u64 (y.id:Int),.int .u64 (y.ver:Int),.int .u64 (y.ep:Int),.string y.key,.string y.val]from rfl);rw[HYV.out];have HY:=hid hy;have hmay:=HP.out.may;rw[<-hy]at hmay;have HMAY:=hid hmay;have N4:=HN3.out.below hb4;have HN4:=hid N4;have H4:=hid (H3.out.below hb4);have HE4:=hid (HE3.out.trans (Ext.below hb4));clear N4 hb4 TL hmay hy HN3 HE3 H3 c0 c1 c2 c3 c4 c5 c6 c7 c8 c9 cA hl0;go_upto_region 8 with fail;obtain⟨yb,hyb⟩:∃yb,yb=w4.heap.size:=⟨_,rfl⟩;generalize hw5:World.alloc _ _=w5;have R1:w5.heap[yb]? =some (.cells y.enc.toArray 203 (0,0)):=by rw[<-hw5,hyb];exact(qa2 _ _ _).trans (if_pos rfl)
 have b5:Below w4.heap.size w4 w5:=by rw[<-hw5];exact(Below.refl _ _).alloc (Nat.le_refl _) _
 have Y5:NobR g3 w5 yb 203 y.enc:=⟨R1,by rw[hyb];exact H4.out.far _ (Nat.le_refl _)⟩;have HY5:=hid Y5;have HN5:=hid (HN4.out.below b5);have H5:=hid (H4.out.below b5);have HE5:=hid (HE4.out.trans (Ext.below b5));obtain⟨y0,y1,y2,y3,y4,y5,y6⟩:=BlkC.cells R1;have hl1:=qa0 R1;rw[<-hyb];clear hw5 R1 b5 Y5 hyb HN4 H4 HE4;go_wp2_with fail;have TE:=qhz y w5 HMAY.out;rw[HYV.out]at TE;refine TE.mono ?_;rintro r w6⟨Ae,ce,rfl,hown,hb6⟩;have HOE:=hid hown;have HY6:=hid (HY5.out.below hb6);have HN6:=hid (HN5.out.below hb6);have H6:=hid (H5.out.below hb6);have HE6:=hid (HE5.out.trans (Ext.below hb6));clear hown hb6 TE HY5 HN5 H5 HE5 y0 y1 y2 y3 y4 y5 y6 hl1;have hel:64<=(encB y).length:=by
  have h1:=qhu HMAY.out;have h2:=qfa y.cls (qeg HMAY.out).1;rw[encB,List.length_append,qcv y (by omega)];omega
 have hel64:((encB y).take 64).length=64:=by rw[List.length_take];omega
 have hce:(64:Int)<=(ce:Int):=by have:=HOE.out.len;omega
 have HEL:=hid hel64;obtain⟨c0,c1,c2,c3,c4,c5,c6,c7,c8,c9,cA⟩:=ChgC.cells HN6.out.1;rw[HP.out.line]at c9;have hl0:=HN6.out.lt;have TD:=hid (qek (H6.out.below (Below.refl _ _).drew));have hnD:=HP.out.hn;clear hel hel64;go_upto_region 9 with fail;go_still_tail 6,(by kernel_rfl);still_call TD.out;repeat still_step
 refine wpStill_nil ?_;change wpList _ _ _ _ _ (World.drew w6);have b7:Below w6.heap.size w6 w6.drew:=(Below.refl _ _).drew;generalize hw7:World.drew w6=w7 at *;have HOE7:=hid ((HOE.out.below b7).lower (Nat.zero_le _));have HY7:=hid (HY6.out.below b7);have HN7:=hid (HN6.out.below b7);have H7:=hid (H6.out.below b7);have HE7:=hid (HE6.out.trans (Ext.below b7));clear hw7 b7 HOE HY6 HN6 H6 HE6 TD c0 c1 c2 c3 c4 c5 c6 c7 c8 c9 cA hl0;go_wp2_with fail;have TS:=qgb H7.out n hnD ((encB y).take 64) Ae ce (((HOE7.out.arr qbn)).take 64) (by intro h0;have:=HEL.out;rw[h0]at this;simp at this) (by rw[HEL.out];exact Nat.le_refl _) (by rw[HEL.out];have:=HOE7.out.len;omega);rw[HEL.out]at TS;refine TS.mono ?_;rintro r w8⟨rfl,g8,A8,E8⟩;have HN8:=hid (HN7.out.ext E8);have HY8:=hid (HY7.out.ext E8);have H8:=hid A8;have HE8:=hid (HE7.out.trans E8);clear A8 E8 TS HOE7 HN7 HY7 H7 HE7;obtain⟨y0,y1,y2,y3,y4,y5,y6⟩:=BlkC.cells HY8.out.1;have hl1:=HY8.out.lt;go_wp2_with fail;refine(qaw y.cls w8).mono ?_;rintro r w9⟨rfl,rfl⟩;obtain⟨M8,hM8⟩:∃M8:qa4,M8= {M with id:=qkj M x,ver:=M.ver+1,D:=M.D.set n (M.D[n].over 0 ((encB y).take 64))}:=⟨_,rfl⟩;have A8:qa6 g8 w9 a P M8:=by rw[hM8];exact H8.out
 have HA8:=hid A8;have HM8:=hid hM8;have how:M8.owed.length=M.owed.length:=by rw[hM8]
 have hno:M8.noted=M.noted:=by rw[hM8]
 have HOW:=hid how;have HNO:=hid hno;obtain⟨sp,hsp⟩:∃sp,sp=qa9 y.cls:=⟨_,rfl⟩;have hspan:n+sp<=258:=by have:=HP.out.span;have:=H.out.dev.2.1.len.2;rw[<-HY.out,<-hsp]at *;omega
 rw[<-hsp];have HSP:=hid hsp;have ht:=HP.out.ht;clear H8 A8 hM8 how hno hsp y0 y1 y2 y3 y4 y5 y6;go_upto_block 0 with fail;go_cut [] (λwx=>∃g' owed',owed'.length=M8.owed.length/\qa6 g' wx a P {M8 with owed:=owed',noted:=qnc M8.noted n sp}/\Ext g8 g' w9 wx)
 case first =>
  go_wp2_with fail;go_loopw [67] (λv67 wr=>∃k:Nat,k<=sp/\v67=.int .i64 k/\∃g' owed',owed'.length=M8.owed.length/\qa6 g' wr a P {M8 with owed:=owed',noted:=qnc M8.noted n k}/\Ext g8 g' w9 wr) (λv67 _=>sp-(intOf v67).toNat)
  case atStart=>exact⟨0,Nat.zero_le _,rfl,g8,M8.owed,rfl,HA8.out,Ext.refl _ _⟩
  case round =>
   obtain⟨k,hks,rfl,g',owed',hol,har,hex⟩:=hrel;have HAR:=hid har;have HEX:=hid hex;have HOL:=hid hol;have NX:=hid (HN8.out.ext hex);clear har hol hex;by_cases hlt:k<sp
   · obtain⟨nk,hnk⟩:∃nk,nk=n+k:=⟨_,rfl⟩
     have hnk8:nk<258:=by omega
     have iw:IntKind.i64.wrap ((n:Int)+(k:Int))=(nk:Int):=by rw[Go.IntWalk.i64_in _ (by omega)];omega
     obtain⟨c0,c1,c2,c3,c4,c5,c6,c7,c8,c9,cA⟩:=ChgC.cells NX.out.1;rw[HP.out.line]at c9;have hl0:=NX.out.lt;have q3:=HAR.out.cells.2.2.2.1;have hla:=qa0 HAR.out.box.1;have i2:(k:Int)<(sp:Int):=by omega
     have HNK:=hid hnk;clear hnk;go_upto_region 13 with fail;go_still_tail 9,(by kernel_rfl);change wpList _ _ _ _ _ (World.drew wr);have b1:Below wr.heap.size wr wr.drew:=(Below.refl _ _).drew;have HARD:=hid (HAR.out.below b1);have HEXD:=hid (HEX.out.trans (Ext.below b1));generalize hwd:World.drew wr=wd at *;clear hwd b1 c0 c1 c2 c3 c4 c5 c6 c7 c8 c9 cA hl0 q3 hla HAR NX;go_wp2_with fail;refine(qu6 HARD.out t nk (by rw[HOL.out,HOW.out];exact ht) hnk8).mono ?_;rintro r wn⟨rfl,owed2,hol2,gn,An,En⟩;have HAN:=hid An;have HEN:=hid En;have HOL2:=hid hol2;clear An En hol2;go_wp2_with fail;exact⟨⟨k+1,by omega,by go_num,gn,owed2,by rw[HOL2.out];exact HOL.out,by have:=HNK.out;subst this;exact HAN.out,HEXD.out.trans HEN.out⟩,by simp[intOf];omega⟩
   · obtain rfl:k=sp:=by omega
     go_wp2_with fail;go_meet;exact⟨g',owed',HOL.out,HAR.out,HEX.out⟩
 obtain⟨g',owed',hol,har,hex⟩:=hcut;have hE:qBg a P M t e grp n x ver id gr vb yb y owed' g w g' wc {M8 with owed:=owed',noted:=qnc M8.noted n sp}:=
  ⟨HP.out,hg,HVER.out,HID.out,HGR.out,HY.out,hol.trans HOW.out,by rw[HM8.out,HSP.out,HY.out,chD,dif_pos hnD],har,HN8.out.ext hex,HY8.out.ext hex,HE8.out.trans hex⟩
 go_step;exact qwy hE
end
end
section
open Go.RowKit
inductive qen(e:Nat)(M0:qa4):List ChgC->qa4->Nat->Prop
 |nil:qen e M0 [] M0 0
 |skip {xs:List ChgC} {M:qa4} {gr:Nat} {x:ChgC}:qen e M0 xs M gr->qbv x=false->qen e M0 (xs++[x]) M gr
 |step {xs:List ChgC} {M:qa4} {gr n:Nat} {x:ChgC} {owed':List Int} {eA:Option Addr} {ec:Nat}:qen e M0 xs M gr->qbv x=true->x.line=(n:Int)->owed'.length=M.owed.length->qen e M0 (xs++[x]) (chM M x e gr n owed' eA ec) (qel M gr)
def hadB(x:ChgC):Bool:=x.had&&(x.kind != 4)
theorem qjc{w:World}{vb:Nat}{x:Bool}(hv:w.heap[vb]? =some (.cells #[.bool x] 4 (0,0))):Arr bitE 1 w w.heap.size (some ⟨vb,0,none⟩) [x]:=by
 refine Arr.of_cells qfd ?_ λj u hu=>?_
 · exact qa0 hv
 · rw[Nat.zero_add,cell_of_row w vb j _ _ _ hv]
   simpa[bitE]using hu
def qpd(M:qa4)(t e:Nat)(l:List ChgC):Prop:=qec l->(∀i (h:i<l.length),qby M.T M.Q l[i]=true)->(∀i (h:i<l.length),qi4 M l i h)->(∀i (h:i<l.length),qee e l[i]) ->
 ∀k (h:k<l.length),qbv l[k]=true->∀M' g',qen e M (l.take k) M' g'->(∃n,qml M' t e n l[k])/\g'<=1000000
def qxp(a:Nat)(P:qag)(M:qa4)(e:Nat)(l:List ChgC)(g:Own8)(w:World)(r:Ending)(w':World):Prop:=
 (∃code:Int,r=.returned (.tuple #[.slice none 0 0,.int .i64 code])/\Below w.heap.size w w' /\
  ((code=1/\(¬qec l\/∃i,∃h:i<l.length,qoa M l i h))\/(code=8/\(M.now≠e\/∃i,∃h:i<l.length,qby M.T M.Q l[i]=false))\/(code≠0/\∃i,∃h:i<l.length,¬qee e l[i]))) \/
 (∃A c M' gr g',r=.returned (.tuple #[.slice A l.length c,.int .i64 0])/\qec l/\M.now=e/\(∀i (h:i<l.length),qby M.T M.Q l[i]=true)/\(∀i (h:i<l.length),qi4 M l i h)/\(∀i (h:i<l.length),qee e l[i])/\qen e M l M' gr/\qa6 g' w' a P M'/\Ext g g' w w'/\Own bitE 4 1 w' w.heap.size A c (l.map hadB)/\qc8 g' 0 A c)
section
variable {g:Own8}{w:World}{a:Nat}{P:qag}{M:qa4}
theorem qgy(h:qa6 g w a P M):Calls prog 41 #[.pointer (some ⟨P.cp,0,none⟩)] w λe w'=>e=.returned (.int .u64 (M.now:Int))/\w'=w:=qkh h.clk.1
theorem qn8(h:qa6 g w a P M)(t e:Nat)(l:List ChgC)(A:Option Addr)(c:Nat)(ht:t<M.owed.length)(hA:Arr ChgC.enc 11 w w.heap.size A l)(hAg:l=[]\/∃b off,A=some ⟨b,off,none⟩/\g b=0)(hc:l.length<=c)(hm:c<=9223372036854775807)(hn:Few M 50000)(hid0:M.id<=1000000)(hver0:M.ver<=1000000)
 (hsz:∀x∈l,x.key.size<=1000000/\x.val.size<=1000000) (hch:qpd M t e l):
 Calls prog 248 #[.pointer (some ⟨a,0,none⟩),.int .i64 (t:Int),.int .u64 (e:Int),.slice A l.length c] w (qxp a P M e l g w):=by
 have H:=hid h;have HA:=hid hA;have HAG:=hid hAg;have HN:=hid hn;have HSZ:=hid hsz;have HCH:=hid hch;have hti:(t:Int)<(M.owed.length:Int):=by omega
 have hti2:¬(M.owed.length:Int)<=(t:Int):=by omega
 have q3:=h.cells.2.2.2.1;have hla:=qa0 h.box.1;have TO:=hid (qvr w 0 P.cp P.oc M.now M.dur M.clo M.owed M.noted M.left M.step h.clk.1);clear h hA hAg hn hsz hch;go_enter func248,ntmps248;go_wp2_with fail;refine TO.out.mono ?_;rintro r w1⟨Ao,co,rfl,_,hb1⟩;have HB1:=hid hb1;clear hb1 q3 hla TO;go_wp2_with fail;refine(qpz l A c w1 ((HA.out.below HB1.out).more HB1.out.size) hc hm).mono ?_;rintro r w2⟨rs,rfl,hb2,hs1,hs2⟩;have HB2:=hid (HB1.out.trans (hb2.mono HB1.out.size));have HS1:=hid hs1;have HS2:=hid hs2;clear hb2 HB1 hs1 hs2;cases rs with
 |false =>
  go_wp2_with fail;go_ret2;exact .inl ⟨1,rfl,HB2.out,.inl ⟨rfl,.inl (HS2.out (by first|rfl|trivial))⟩⟩
 |true =>
  have HSH:=hid (HS1.out rfl);have hl3:=HSH.out.2.1;have H2:=hid (H.out.below HB2.out);have q3:=H2.out.cells.2.2.2.1;have hla:=qa0 H2.out.box.1;have TN:=hid (qgy H2.out);clear HS1 HS2;go_wp2_with fail;refine TN.out.mono ?_;rintro r w3⟨rfl,rfl⟩;by_cases hne:M.now=e;rotate_left
  · have hb:((M.now:Int) != (e:Int))=true:=by rw[bne_iff_ne];omega
    have HNE:=hid hne;clear hne;go_wp2_with fail;go_ret2;exact .inl ⟨8,rfl,HB2.out,.inr (.inl ⟨rfl,.inl HNE.out⟩)⟩
  have hb:((M.now:Int) != (e:Int))=false:=by rw[bne_eq_false_iff_eq];omega
  have HNE:=hid hne;clear hne q3 TN;go_wp2_with fail;go_loopw [48] (λv48 wr=>∃k:Nat,k<=l.length/\v48=.int .i64 k/\(∀i (h:i<l.length),i<k->qby M.T M.Q l[i]=true)/\Below w.heap.size w wr) (λv48 _=>l.length-(intOf v48).toNat)
  case atStart=>exact⟨0,Nat.zero_le _,rfl,λi _ hi=>absurd hi (Nat.not_lt_zero i),HB2.out⟩
  case round =>
   obtain⟨k,hkl,rfl,hno,hbr⟩:=hrel;have HNO:=hid hno;have HBR:=hid hbr;clear hno;by_cases hlt:k<l.length
   · obtain⟨b,off,rfl,hB,k0,k1,k2,k3,k4,k5,k6,k7,k8,k9,kA⟩:=((HA.out.below hbr).more hbr.size).chg hlt
     have i1:(0:Int)<=(k:Int):=by omega
     have i2:(k:Int)<(l.length:Int):=by omega
     obtain⟨x,hx⟩:∃x,x=l[k]:=⟨_,rfl⟩;have hxs:=HSZ.out l[k] (List.getElem_mem hlt);rw[<-hx]at k0 k1 k2 k3 k4 k5 k6 k7 k8 k9 kA hxs;have HX:=hid hx;have HXS:=hid hxs;clear hbr hx hxs;go_upto_region 8 with fail;generalize hw4:World.alloc _ _=w4;have R0:w4.heap[wr.heap.size]? =some (.cells x.enc.toArray 376 (0,0)):=by rw[<-hw4];exact qea _ x _
     have b4:Below w.heap.size w w4:=by rw[<-hw4];exact HBR.out.alloc HBR.out.size _
     obtain⟨c0,c1,c2,c3,c4,c5,c6,c7,c8,c9,cA⟩:=ChgC.cells R0;have hl0:=qa0 R0;have HB4:=hid b4;obtain⟨vb,hvb⟩:∃vb,vb=wr.heap.size:=⟨_,rfl⟩;rw[<-hvb]at c0 c1 c2 c3 c4 c5 c6 c7 c8 c9 cA hl0 ⊢;have HXV:=hid x.v_eq;clear hw4 R0 b4 k0 k1 k2 k3 k4 k5 k6 k7 k8 k9 kA hvb hB;go_wp2_with fail;have TF:=qt7 (H.out.below HB4.out) x HXS.out.1;rw[HXV.out]at TF;refine TF.mono ?_;rintro r w5⟨rfl,hb5⟩;have HB5:=hid (HB4.out.trans (hb5.mono HB4.out.size));clear hb5 TF HB4 HBR c0 c1 c2 c3 c4 c5 c6 c7 c8 c9 cA hl0;cases hf:qby M.T M.Q x with
     |false =>
      have HF:=hid hf;clear hf;go_wp2_with fail;go_ret2;exact .inl ⟨8,rfl,HB5.out,.inr (.inl ⟨rfl,.inr ⟨k,hlt,by rw[<-HX.out];exact HF.out⟩⟩)⟩
     |true =>
      have HF:=hid hf;clear hf;go_wp2_with fail;exact⟨⟨k+1,by omega,by go_num,λi hi h2=>(by
       by_cases hik:i=k
       · subst hik;rw[<-HX.out];exact HF.out
       · exact HNO.out i hi (by omega)),HB5.out⟩,by simp[intOf];omega⟩
   · obtain rfl:k=l.length:=by omega
     have HFO:=hid (λi (h:i<l.length)=>HNO.out i h h);have HBQ:=HBR;clear hbr HNO HBR;go_wp2_with fail;refine(qwf (H.out.below HBQ.out) l A c ((HA.out.below HBQ.out).more HBQ.out.size) hc hm (by omega) HN.out).mono ?_;rintro r w5⟨rh,rfl,hb5,hh1,hh2⟩;have HB5:=hid (HBQ.out.trans (hb5.mono HBQ.out.size));have HH1:=hid hh1;have HH2:=hid hh2;clear hb5 hh1 hh2 HBQ;cases rh with
     |false =>
      go_wp2_with fail;go_ret2;exact .inl ⟨1,rfl,HB5.out,.inl ⟨rfl,.inr (HH2.out (by first|rfl|trivial))⟩⟩
     |true =>
      have HHE:=hid (HH1.out rfl);clear HH1 HH2;go_wp2_with fail;refine(qwm (H.out.below HB5.out) l A c e ((HA.out.below HB5.out).more HB5.out.size) hc hm (by omega) hid0 hver0 HSZ.out).mono ?_;rintro r w6⟨code,rfl,hb6,hf1,hf2⟩;have HB6:=hid (HB5.out.trans (hb6.mono HB5.out.size));have HF1:=hid hf1;have HF2:=hid hf2;clear hb6 hf1 hf2 HB5;by_cases hcode:code=0;rotate_left
      · have hcb:(code != 0)=true:=by rw[bne_iff_ne];exact hcode
        have HC:=hid hcode;clear hcode;go_wp2_with fail;go_ret2;exact .inl ⟨code,rfl,HB6.out,.inr (.inr ⟨HC.out,HF2.out HC.out⟩)⟩
      subst hcode;have HFT:=hid (HF1.out rfl);clear HF1 HF2;go_wp2_with fail;go_loopw [13,14,70] (λv13 v14 v70 wr=>∃(k:Nat) (g':Own8) (M':qa4) (gr:Nat) (A':Option Addr) (c':Nat),k<=l.length/\v13=.slice A' k c'/\v14=.int .u64 gr/\v70=.int .i64 k/\qa6 g' wr a P M'/\Ext g g' w wr/\qen e M (l.take k) M' gr/\Own bitE 4 1 wr w.heap.size A' c' ((l.take k).map hadB)/\qc8 g' 0 A' c') (λ_ _ v70 _=>l.length-(intOf v70).toNat)
      case atStart=>exact⟨0,g,M,0,none,0,Nat.zero_le _,rfl,rfl,rfl,H.out.below HB6.out,Ext.below HB6.out,qen.nil,Own.none_,λb hb=>by simp[qa8]at hb⟩
      case round =>
       obtain⟨k,g',M',gr,A',c',hkl,rfl,rfl,rfl,har,hex,hcn,how,hri⟩:=hrel;have HAR:=hid har;have HEX:=hid hex;have HCN:=hid hcn;have HOW:=hid how;have HRI:=hid hri;clear har hex hcn how hri;by_cases hlt:k<l.length
       · have hAr:Arr ChgC.enc 11 wr wr.heap.size A l:=by
          rcases HAG.out with h0|⟨b,off,hAb,hgb⟩
          · subst h0;simp at hlt
          · rcases HA.out with h1|⟨b',off',hAb',hlt',hcc⟩
            · subst h1;simp at hlt
            · rw[hAb]at hAb'
              cases hAb'
              exact .inr ⟨b,off,hAb,by have:=HEX.out.only.size;omega,λi hi j u hu=>(World.cell?_of_block (w:=w) (HEX.out.nobody hlt' hgb)).trans (hcc i hi j u hu)⟩
         obtain⟨b,off,rfl,hB,k0,k1,k2,k3,k4,k5,k6,k7,k8,k9,kA⟩:=hAr.chg hlt;have i1:(0:Int)<=(k:Int):=by omega
         have i2:(k:Int)<(l.length:Int):=by omega
         obtain⟨x,hx⟩:∃x,x=l[k]:=⟨_,rfl⟩;rw[<-hx]at k0 k1 k2 k3 k4 k5 k6 k7 k8 k9 kA;have HX:=hid hx;have HTK:=hid (show l.take (k+1)=l.take k++[x]by rw[hx];exact List.take_succ_eq_append_getElem hlt);have HLK:=hid (show((l.take k).map hadB).length=k by rw[List.length_map,List.length_take];omega);clear hAr hx;go_upto_region 21 with fail;obtain⟨vb,hvb⟩:∃vb,vb=wr.heap.size:=⟨_,rfl⟩;generalize hw4:World.alloc _ _=w4;have R0:w4.heap[wr.heap.size]? =some (.cells x.enc.toArray 376 (0,0)):=by rw[<-hw4];exact qea _ x _
         have b4:Below wr.heap.size wr w4:=by rw[<-hw4];exact(Below.refl _ _).alloc (Nat.le_refl _) _
         rw[<-hvb]at R0 ⊢;have HV4:=hid (show NobR g' w4 vb 376 x.enc from⟨R0,by rw[hvb];exact HAR.out.far _ (Nat.le_refl _)⟩);have HA4:=hid (HAR.out.below b4);have HE4:=hid (HEX.out.trans (Ext.below b4));have HO4:=hid (HOW.out.below b4);obtain⟨c0,c1,c2,c3,c4,c5,c6,c7,c8,c9,cA⟩:=ChgC.cells R0;have hl0:=qa0 R0;have hz4:=hid HE4.out.only.size;clear hw4 R0 b4 hvb k0 k1 k2 k3 k4 k5 k6 k7 k8 k9 kA HAR HEX HOW hB;go_cut [13] (λv13 wx=>∃A5 c5,v13=.slice A5 (k+1) c5/\Own bitE 4 1 wx w.heap.size A5 c5 ((l.take (k+1)).map hadB)/\qc8 g' 0 A5 c5/\qa6 g' wx a P M'/\Ext g g' w wx/\NobR g' wx vb 376 x.enc)
         case first =>
          have HTM:=hid (show(l.take (k+1)).map hadB=(l.take k).map hadB++[hadB x]by rw[HTK.out,List.map_append];rfl);obtain⟨L,hL⟩:∃L,L=(l.take k).map hadB:=⟨_,rfl⟩;rw[<-hL]at HTM HO4 HLK;obtain⟨hb',hhb⟩:∃hb',hb'=hadB x:=⟨_,rfl⟩;rw[<-hhb]at HTM;have HHB:=hid hhb;have HFIN:Hid (∀w5 A5 c5,Own bitE 4 1 w5 w.heap.size A5 c5 (L++[hb'])->(w4.alloc (.cells #[.bool hb'] 4)).grownBy w5 (qa8 A' c')->(A5=A'/\c5=c'\/∃y,A5=some ⟨y,0,none⟩/\(w4.alloc (.cells #[.bool hb'] 4)).heap.size<=y)->qc8 g' 0 A5 c5/\qa6 g' w5 a P M'/\Ext g g' w w5/\NobR g' w5 vb 376 x.enc):=hid λw5 A5 c5 hown hgr hloc=>by
           have ba:Below w4.heap.size w4 (w4.alloc (.cells #[.bool hb'] 4)):=(Below.refl _ _).alloc (Nat.le_refl _) _;have hA:=HA4.out.below ba;have hE:=HE4.out.trans (Ext.below ba);have hV:=HV4.out.below ba;refine⟨λb hb=>?_,hA.nobody (Only.grown hgr λj hj=>.inl (HRI.out j hj)),?_,?_,hV.2⟩
           · rcases hloc with⟨rfl,rfl⟩|⟨y,rfl,hy⟩
             · exact HRI.out b hb
             · rw[qa8]at hb
               split at hb
               · cases hb
               · cases hb;exact hA.far _ hy
           · have hrow:=qe4 HO4.out
             exact⟨hE.old,⟨hgr.os.trans hE.only.os,hgr.tape.trans hE.only.tape,hgr.output.trans hE.only.output,Nat.le_trans hE.only.size hgr.size,λj hj hn=>(hgr.block j (Nat.lt_of_lt_of_le hj hE.only.size) (λe=>by have:=hrow j e.symm;omega)).trans (hE.only.block j hj hn)⟩⟩
           · refine(hgr.block vb hV.lt λe=>?_).trans hV.1
             exact HO4.out.notBox HV4.out.1 (by decide) e
          clear hL hhb;rcases Bool.eq_false_or_eq_true x.had with hh|hh
          · rw[hh]at c3
            have HH:=hid hh;clear hh;have HX2:=hid (show(x.kind != 4)=hb' by rw[HHB.out,hadB,HH.out];rfl);have e4:=HX2.out;go_wp2_with(at_builtin;refine qo4 (l:=L) (m:=[hb']) (A:=A') (c:=c') (lo:=w.heap.size) _ rfl (.tmp 74) (.tmp 82) rfl (by rw[HLK.out];simp[Act.eval]) (HO4.out.alloc _) (A2:=some ⟨w4.heap.size,0,none⟩) 1 (by simp[Act.eval]) (qjc (vb:=w4.heap.size) (x:=hb') (by rw[qa2,if_pos rfl])) (by rw[HLK.out];simp;omega) (by have:=HE4.out.only.size;simp;omega) ?_;intro A5 c5 w5 hown hgr hloc);obtain⟨r1,r2,r3,r4⟩:=HFIN.out w5 A5 c5 hown hgr hloc;rw[HLK.out];go_meet;exact⟨A5,c5,by simp,by rw[HTM.out];exact hown,r1,r2,r3,r4⟩
          · rw[hh]at c3
            have HH:=hid hh;clear hh;obtain rfl:hb'=false:=by rw[HHB.out,hadB,HH.out];rfl
            go_wp2_with(at_builtin;refine qo4 (l:=L) (m:=[false]) (A:=A') (c:=c') (lo:=w.heap.size) _ rfl (.tmp 74) (.tmp 82) rfl (by rw[HLK.out];simp[Act.eval]) (HO4.out.alloc _) (A2:=some ⟨w4.heap.size,0,none⟩) 1 (by simp[Act.eval]) (qjc (vb:=w4.heap.size) (x:=false) (by rw[qa2,if_pos rfl])) (by rw[HLK.out];simp;omega) (by have:=HE4.out.only.size;simp;omega) ?_;intro A5 c5 w5 hown hgr hloc);obtain⟨r1,r2,r3,r4⟩:=HFIN.out w5 A5 c5 hown hgr hloc;rw[HLK.out];go_meet;exact⟨A5,c5,by simp,by rw[HTM.out];exact hown,r1,r2,r3,r4⟩
         obtain⟨AE,cE,rfl,how5,hri5,har5,hex5,hv5⟩:=hcut;obtain⟨w5,hw5⟩:∃x,x=wc:=⟨_,rfl⟩;subst hw5;have HOW5:=hid how5;have HRI5:=hid hri5;have HAR5:=hid har5;have HEX5:=hid hex5;have HV5:=hid hv5;have HXV:=hid x.v_eq;clear how5 hri5 har5 hex5 hv5 c0 c1 c2 c3 c4 c5 c6 c7 c8 c9 cA hl0 HA4 HE4 HO4 HV4 HRI;obtain⟨c0,c1,c2,c3,c4,c5,c6,c7,c8,c9,cA⟩:=ChgC.cells HV5.out.1;have hl0:=HV5.out.lt;go_wp2_with fail;have TM:=qf4 x w5;rw[HXV.out]at TM;refine TM.mono ?_;rintro r w6⟨rfl,hb6⟩;have HOW6:=hid (HOW5.out.below hb6);have HAR6:=hid (HAR5.out.below hb6);have HEX6:=hid (HEX5.out.trans (Ext.below hb6));have HV6:=hid (HV5.out.below hb6);clear hb6 TM HOW5 HAR5 HEX5 HV5 c0 c1 c2 c3 c4 c5 c6 c7 c8 c9 cA hl0;obtain⟨c0,c1,c2,c3,c4,c5,c6,c7,c8,c9,cA⟩:=ChgC.cells HV6.out.1;have hl0:=HV6.out.lt;cases hnd:qbv x with
         |false =>
          have HCS:=hid (show qen e M (l.take (k+1)) M' gr by rw[HTK.out];exact qen.skip HCN.out hnd);clear hnd;go_wp2_with fail;exact⟨⟨k+1,g',M',gr,AE,cE,by omega,rfl,rfl,by go_num,HAR6.out,HEX6.out,HCS.out,HOW6.out,HRI5.out⟩,by simp[intOf];omega⟩
         |true =>
          obtain⟨⟨nn,hpre⟩,hgr6⟩:=HCH.out HSH.out HFO.out HHE.out HFT.out k hlt (by rw[<-HX.out];exact hnd) M' gr HCN.out;rw[<-HX.out]at hpre;have HPR:=hid hpre;have HND:=hid hnd;clear hnd hpre;go_wp2_with fail;have TC:=qqx HAR6.out t e gr nn x HPR.out hgr6;rw[HXV.out]at TC;refine TC.mono ?_;rintro r w7⟨rfl,owed',eA,ec,hol,g7,A7,E7⟩;have HCS:=hid (show qen e M (l.take (k+1)) (chM M' x e gr nn owed' eA ec) (qel M' gr)by rw[HTK.out];exact qen.step HCN.out HND.out HPR.out.line hol);have HAR7:=hid A7;have HEX7:=hid (HEX6.out.trans E7);have hrl:=qcg HOW6.out;have HRI7:=hid (show qc8 g7 0 AE cE from λb hb=>(E7.old b (hrl b hb)).trans (HRI5.out b hb));have HOW7:=hid (HOW6.out.keep2 (w':=w7) (by
           by_cases hc0:cE=0
           · exact .inl hc0
           · exact .inr λb off hAE hlt'=>E7.nobody hlt' (HRI5.out b (by rw[qa8,if_neg hc0,hAE];rfl))))
          obtain⟨v1,hv1⟩:∃v1,v1=M'.ver+1:=⟨_,rfl⟩;rw[<-hv1];have HV1:=hid hv1;clear TC A7 E7 hrl hol hv1 HV6 HAR6 HEX6 HOW6 c0 c1 c2 c3 c4 c5 c6 c7 c8 c9 cA hl0;by_cases hg0:gr=0
          · have hb0:((gr:Int)==0)=true:=by rw[beq_iff_eq];omega
            have HG:=hid (show qel M' gr=v1 by rw[qel,if_pos hg0,HV1.out]);clear hg0;go_wp2_with fail;exact⟨⟨k+1,g7,chM M' x e gr nn owed' eA ec,qel M' gr,AE,cE,by omega,rfl,by rw[HG.out],by go_num,HAR7.out,HEX7.out,HCS.out,HOW7.out,HRI7.out⟩,by simp[intOf];omega⟩
          · have hb0:((gr:Int)==0)=false:=by rw[beq_eq_false_iff_ne];omega
            have HG:=hid (show qel M' gr=gr by rw[qel,if_neg hg0]);clear hg0;go_wp2_with fail;exact⟨⟨k+1,g7,chM M' x e gr nn owed' eA ec,qel M' gr,AE,cE,by omega,rfl,by rw[HG.out],by go_num,HAR7.out,HEX7.out,HCS.out,HOW7.out,HRI7.out⟩,by simp[intOf];omega⟩
       · obtain rfl:k=l.length:=by omega
         have HCNL:=hid (show qen e M l M' gr by have:=HCN.out;rwa [List.take_length]at this);have HOWL:=hid (show Own bitE 4 1 wr w.heap.size A' c' (l.map hadB)by have:=HOW.out;rwa [List.take_length]at this);go_wp2_with fail;go_ret2;exact .inr ⟨A',c',M',gr,g',rfl,HSH.out,HNE.out,HFO.out,HHE.out,HFT.out,HCNL.out,HAR.out,HEX.out,HOWL.out,HRI.out⟩
end
end
section
open Go.RowKit
def OkL(D:Nat)(x:qa3):Prop:=1<=x.id/\x.id<=2305843009213693952/\¬qa9 x.cls=0/\(∃ln:Nat,x.line=(ln:Int)/\ln+qa9 x.cls<=D)/\x.key.size<=16
structure OkA(M:qa4)(n th:Nat):Prop where
 few:Few M n
 rise:Rise M.O
 id:M.id<=n
 ver:M.ver<=n
 slabs:2+8*M.S.length<=M.D.length
 lt:∀i,i<8->∀x∈M.T i,OkL M.D.length x
 lq:∀x∈M.Q,OkL M.D.length x
 th:M.H.length=th/\M.owed.length=th
theorem OkA.mono{M:qa4}{n n' th:Nat}(h:OkA M n th)(hn:n<=n'):OkA M n' th:=
 ⟨⟨Nat.le_trans h.few.t hn,Nat.le_trans h.few.q hn,Nat.le_trans h.few.qn hn,Nat.le_trans h.few.o hn,Nat.le_trans h.few.e hn,h.few.b⟩,h.rise,Nat.le_trans h.id hn,Nat.le_trans h.ver hn,h.slabs,h.lt,h.lq,h.th⟩
theorem qvp(l:List EntC)(x:EntC)(h:l.length<=258):(putE l x).length<=258:=by
 unfold putE;split
 · rename_i h0
   rw[List.length_append];simp;omega
 · exact h
theorem qvk(L:List qa3)(x:qa3):(setM L x).length<=L.length+1:=by
 unfold setM;split
 · rw[List.length_set];omega
 · rw[List.length_append];simp
theorem qwr(L:List qa3)(key:ByteArray):(delM L key).length<=L.length:=by
 unfold delM;split
 · rw[List.length_eraseIdx];split <;> omega
 · exact Nat.le_refl _
theorem qkk(B:Nat->List qa3)(k:Nat)(L:List qa3)(q:Nat)(h:L.length<=(B k).length+q):∀n,(catB (updB B k L) n).length<=(catB B n).length+(if k<n then q else 0)
 |0=>by simp[catB]
 |n+1=>by
  have ih:=qkk B k L q h n
  rw[catB,catB,List.length_append,List.length_append]
  by_cases hk:n=k
  · subst hk
    rw[show updB B n L n=L from if_pos rfl]
    rw[if_neg (Nat.lt_irrefl n)]at ih
    rw[if_pos (Nat.lt_succ_self n)]
    omega
  · rw[show updB B k L n=B n from if_neg hk]
    by_cases hkn:k<n
    · rw[if_pos hkn]at ih
      rw[if_pos (by omega)]
      omega
    · rw[if_neg hkn]at ih
      rw[if_neg (by omega)]
      omega
theorem qvz{x:ChgC}{e id ver:Nat}(h:mayB (qca x 1 1 e)=true)(h1:qau id=true)(h2:qau ver=true):mayB (qca x id ver e)=true:=by
 have n1:qau 1=true:=by decide
 unfold qca at h ⊢;split at h
 · rename_i hk
   rw[if_pos hk];simp only[mayB,n1,h1,h2,Bool.true_and]at h ⊢;exact h
 · rename_i hk
   rw[if_neg hk];split at h
   · rename_i hk4
     rw[if_pos hk4];simp only[mayB,n1,h1,h2,Bool.true_and]at h ⊢;exact h
   · rename_i hk4
     rw[if_neg hk4];simp only[mayB,n1,h1,h2,Bool.true_and]at h ⊢;exact h
theorem qsp(x:ChgC)(id ver e:Nat):(qca x id ver e).cls=(qca x 1 1 e).cls/\(qca x id ver e).key=(qca x 1 1 e).key:=by
 unfold qca;split
 · exact⟨rfl,rfl⟩
 · split <;> exact⟨rfl,rfl⟩
theorem qpv{i k:Nat}{c:Int}(h:k<(qb1 i c).length):¬qa9 c=0/\(qb1 i c)[k]+qa9 c<=2+8*(i+1):=by
 have h0:¬(qa9 c=0\/32<=i):=λh0=>by simp[qb1,h0]at h
 have hs:¬qa9 c=0:=λh1=>h0 (.inl h1)
 refine⟨hs,?_⟩;simp only[qb1,if_neg h0,List.getElem_map,List.getElem_range];have hk:k<8/qa9 c:=by simpa[qb1,if_neg h0]using h
 have h8:(k+1)*qa9 c<=8:=by
  have h1:(k+1)*qa9 c<=(8/qa9 c)*qa9 c:=Nat.mul_le_mul_right _ hk;have h2:(8/qa9 c)*qa9 c<=8:=Nat.div_mul_le_self 8 _;omega
 rw[Nat.add_mul]at h8;omega
theorem qw5{L:List qa3}{key:ByteArray}{y:qa3}(h:qd0 L key=some y):y∈L/\y.key=key:=by
 unfold qd0 at h;exact⟨List.mem_of_find?_eq_some h,by simpa using List.find?_some h⟩
theorem qt6{M:qa4}{n th:Nat}(hok:OkA M n th){x:ChgC}(hf:qby M.T M.Q x=true)(hk:qbw x=true)(hn:qbv x=true)(ha:qdk x=false):qau x.old.id=true:=by
 have num:∀y:qa3,OkL M.D.length y->qau y.id=true:=λy hy=>by simp[qau,hy.1,hy.2.1]
 unfold qby at hf;split at hf
 · rename_i hm
   rw[Bool.and_eq_true,beq_iff_eq]at hf;have hhad:x.had=true:=by
    simp only[qcf,Bool.or_eq_true,beq_iff_eq]at hm;rcases hm with h|h
    · rw[qdk,h]at ha
      simpa using ha
    · rw[qbv,h]at hn
      simpa using hn
   rw[hhad]at hf;obtain⟨y,hy⟩:=Option.isSome_iff_exists.1 hf.1;have h2:=hf.2;rw[hy]at h2;simp only[Option.isSome_some,Bool.not_true,Bool.false_or,Option.getD_some]at h2;have e:=qix.1 h2;have hm2:=qw5 hy;rw[<-e];exact num y (hok.lt _ (qb6 _) y hm2.1)
 · split at hf
   · rw[Bool.and_eq_true]at hf
     obtain⟨y,hy⟩:=Option.isSome_iff_exists.1 hf.1;have h2:=hf.2;rw[hy]at h2;have e:=qix.1 (show qf6 y x.old=true from h2);rw[<-e];exact num y (hok.lq y (List.mem_of_mem_head? hy))
   · rename_i hm h5
     exfalso;simp only[qbw,Bool.or_eq_true,Bool.and_eq_true,beq_iff_eq]at hk;simp only[qcf,Bool.or_eq_true,beq_iff_eq,not_or]at hm;rcases hk with((h|h)|h)|h
     · exact hm.1 h
     · exact hm.2 h
     · rw[qdk,h]at ha;simp at ha
     · exact h5 h.1
theorem qsd{b:BlkC}(h:mayB b=true):¬qa9 b.cls=0/\b.key.size<=16/\(¬b.kind=0->qau b.id=true):=by
 refine⟨(qeg h).1,(qeg h).2.1,λhk=>?_⟩;unfold mayB at h;repeat' split at h
 all_goals first|(exact absurd ‹b.kind=0› hk)|(exact absurd h (by decide))|(rw[Bool.and_eq_true,Bool.and_eq_true]at h;exact h.1.1)
theorem qiy(x:ChgC)(id ver e:Nat):¬(qca x id ver e).kind=0/\(qca x id ver e).id=id:=by
 unfold qca;split
 · exact⟨(by show ¬(1:Int)=0;decide),rfl⟩
 · split
   · exact⟨(by show ¬(2:Int)=0;decide),rfl⟩
   · exact⟨(by show ¬(3:Int)=0;decide),rfl⟩
theorem qjy{n:Nat}:qau n=true↔1<=n/\n<=2305843009213693952:=by simp[qau]
theorem qwz{M M':qa4}{n n' th t e:Nat}{l:List ChgC}{i:Nat}(hi:i<l.length)(hok:OkA M n th)(hok':OkA M' n' th)(hn':n'<=50000)(_hS:M'.S=M.S)(hD:M'.D.length=M.D.length)(ht:t<th)(hf:qby M.T M.Q l[i]=true)(hk:qbw l[i]=true)(hh:qi4 M l i hi)(hft:qee e l[i])(hkey:l[i].key.size<=1000000)(hnd:qbv l[i]=true)(hpop:l[i].kind=5->¬M'.Q=[]):∃nn,qml M' t e nn l[i]:=by
 obtain⟨x,hx⟩:∃x,x=l[i]:=⟨_,rfl⟩;obtain⟨hof,_,_⟩:=hh hnd;obtain⟨s,k,hs,hcl,_,hks,hline⟩:=hof.1 rfl;obtain⟨hm1,hc1⟩:=hft hnd;rw[<-hx]at hf hk hft hkey hnd hpop hline hcl hm1 hc1 ⊢;have hst:=qpv hks;have hnum:qau (chId M' x)=true:=by
  unfold chId;split
  · rw[qjy]
    have:=hok'.id;omega
  · rename_i ha
    exact qt6 hok hf hk hnd (by simpa using ha)
 have hmay:mayB (qda M' x e)=true:=qvz hm1 hnum (by rw[qjy];have:=hok'.ver;omega);have hcls:(qda M' x e).cls=M.S[s].cls:=((qsp x _ _ e).1.trans hc1).trans hcl;have hsl:=hok.slabs;refine⟨_,⟨by rw[hok'.th.2];exact ht,hline,?_,?_,hmay,hk,hkey,?_,hok'.rise,by have:=hok'.id;omega,by have:=hok'.ver;omega,hpop⟩⟩
 · rw[hD];omega
 · rw[hcls,hD];omega
 · exact(hok'.mono hn').few
theorem qB2{M:qa4}{n th t e gr nn:Nat}{x:ChgC}{owed':List Int}{eA:Option Addr}{ec:Nat}(hok:OkA M n th)(hp:qml M t e nn x)(how:owed'.length=M.owed.length):OkA (chM M x e gr nn owed' eA ec) (n+1) th:=by
 have hmf:=qsd hp.may;have hDl:(chD M x e nn).length=M.D.length:=by rw[chD,dif_pos hp.hn,List.length_set]
 have hid:qau (chId M x)=true:=by
  have:=hmf.2.2 (qiy x _ _ e).1;rwa [qda,(qiy x _ _ e).2]at this
 have hlk:OkL M.D.length (qcj M x e):=⟨(qjy.1 hid).1,(qjy.1 hid).2,hmf.1,⟨nn,hp.line,hp.span⟩,hmf.2.1⟩;have hf:=hok.few;refine⟨⟨?_,?_,?_,?_,?_,?_⟩,?_,?_,?_,?_,?_,?_,?_⟩
 · show(catB (chT M x e) 8).length<=n+1
   unfold chT;split
   · have:=qkk M.T (bucket (qcj M x e).key) (setM (M.T (bucket (qcj M x e).key)) (qcj M x e)) 1 (qvk _ _) 8
     have:=hf.t;split at * <;> omega
   · split
     · have:=qkk M.T (bucket x.key) (delM (M.T (bucket x.key)) x.key) 0 (qwr _ _) 8
       have:=hf.t;split at * <;> omega
     · have:=hf.t;omega
 · show(chQ M x e).length<=n+1
   unfold chQ;have:=hf.q;split
   · rw[List.length_append];simp;omega
   · split
     · rw[List.length_tail];omega
     · omega
 · show chQn M x<=n+1
   unfold chQn;have:=hf.q;have:=hf.qn;split <;> omega
 · show(chO M x e).length<=n+1
   unfold chO;have:=hf.o;split
   · have:=qvm M.O (qcj M x e);omega
   · split
     · have:=qtg M.O x.key;omega
     · omega
 · show(M.E++[qx0 M x e gr]).length<=n+1
   have:=hf.e;rw[List.length_append];simp;omega
 · show(qqy M x e).length<=258
   unfold qqy;split
   · exact qvp _ _ hf.b
   · exact hf.b
 · show Rise (chO M x e)
   unfold chO;split
   · exact qvo hok.rise _
   · split
     · exact qrz hok.rise _
     · exact hok.rise
 · show qkj M x<=n+1
   unfold qkj;have:=hok.id;split <;> omega
 · show M.ver+1<=n+1
   have:=hok.ver;omega
 · show 2+8*M.S.length<=(chD M x e nn).length
   rw[hDl];exact hok.slabs
 · show ∀i,i<8->∀y∈chT M x e i,OkL (chD M x e nn).length y
   rw[hDl];intro i hi y hy;unfold chT at hy;split at hy
   · unfold updB at hy
     split at hy
     · rcases qoq hy with rfl|hy
       · exact hlk
       · exact hok.lt _ (qb6 _) y hy
     · exact hok.lt i hi y hy
   · split at hy
     · unfold updB at hy
       split at hy
       · exact hok.lt _ (qb6 _) y (qor hy)
       · exact hok.lt i hi y hy
     · exact hok.lt i hi y hy
 · show ∀y∈chQ M x e,OkL (chD M x e nn).length y
   rw[hDl];intro y hy;unfold chQ at hy;split at hy
   · rcases List.mem_append.1 hy with h|h
     · exact hok.lq y h
     · rw[List.mem_singleton.1 h];exact hlk
   · split at hy
     · exact hok.lq y (List.mem_of_mem_tail hy)
     · exact hok.lq y hy
 · exact⟨hok.th.1,how.trans hok.th.2⟩
structure qfh(M:qa4)(n th:Nat)(xs:List ChgC)(M':qa4)(g':Nat):Prop where
 ok:OkA M' (n+xs.length) th
 s:M'.S=M.S
 d:M'.D.length=M.D.length
 now:M'.now=M.now/\M'.dur=M.dur
 g:g'<=n+xs.length
 q:(∀x∈xs,¬x.kind=5)->¬M.Q=[]->¬M'.Q=[]
theorem qm7{M:qa4}{n th t e:Nat}{l:List ChgC}(hok:OkA M n th)(hn:n+l.length<=49000)(ht:t<th)(hsh:qec l)(hfo:∀i (h:i<l.length),qby M.T M.Q l[i]=true)(hhe:∀i (h:i<l.length),qi4 M l i h)(hfi:∀i (h:i<l.length),qee e l[i])(hsz:∀x∈l,x.key.size<=1000000):
 ∀{xs:List ChgC} {M':qa4} {g':Nat},qen e M xs M' g'->∀ys,l=xs++ys->qfh M n th xs M' g'/\∀y ys',ys=y::ys'->qbv y=true->∃nn,qml M' t e nn y:=by
 have pre:∀{xs:List ChgC} {M':qa4} {g':Nat},qfh M n th xs M' g'->∀y ys',l=xs++y::ys'->qbv y=true->∃nn,qml M' t e nn y:=by
  intro xs M' g' hi y ys' hl hnd;have hlen:xs.length<l.length:=by rw[hl,List.length_append,List.length_cons];omega
  have hy:l[xs.length]=y:=by simp[hl]
  rw[<-hy]at hnd ⊢;refine qwz hlen hok hi.ok (by omega) hi.s hi.d ht (hfo _ hlen) (hsh.2.2 _ hlen).1 (hhe _ hlen) (hfi _ hlen) (hsz _ (List.getElem_mem hlen)) hnd λh5=>hi.q ?_ ?_
  · intro x hx hx5
    obtain⟨j,hj,rfl⟩:=List.getElem_of_mem hx;have hc:=(hsh.2.2 _ hlen).2 j hj;have hxj:l[j]'(by omega)=xs[j]:=by simp[hl,List.getElem_append_left hj]
    rw[hxj,qci,h5,hx5]at hc;simp at hc
  · intro h0
    have hf:=hfo _ hlen;unfold qby at hf;rw[if_neg (by rw[qcf,h5];decide),if_pos h5,h0]at hf;simp at hf
 intro xs M' g' hc;induction hc with
 |nil =>
  intro ys hl;have hi:qfh M n th [] M 0:=⟨hok,rfl,rfl,⟨rfl,rfl⟩,Nat.zero_le _,λ_ h=>h⟩;exact⟨hi,λy ys' hy=>pre hi y ys' (by rw[hl,hy])⟩
 | @skip xs M1 g1 x h1 hn1 ih =>
  intro ys hl;have hl':l=xs++x::ys:=by rw[hl];simp
  have h0:=(ih _ hl').1;have hi:qfh M n th (xs++[x]) M1 g1:=⟨h0.ok.mono (by rw[List.length_append];simp),h0.s,h0.d,h0.now,by rw[List.length_append];have:=h0.g;simp;omega,λh5=>h0.q λy hy=>h5 y (List.mem_append_left _ hy)⟩;exact⟨hi,λy ys' hy=>pre hi y ys' (by rw[hl,hy])⟩
 | @step xs M1 g1 nn x owed' eA ec h1 hn1 hline how ih =>
  intro ys hl;have hl':l=xs++x::ys:=by rw[hl];simp
  obtain⟨h0,h2⟩:=ih _ hl';obtain⟨n2,hp⟩:=h2 x ys rfl hn1;obtain rfl:nn=n2:=by have:=hp.line;omega
  have hlen:(xs++[x]).length=xs.length+1:=by simp
  have hi:qfh M n th (xs++[x]) (chM M1 x e g1 nn owed' eA ec) (qel M1 g1):=by
   refine⟨by rw[hlen];exact qB2 h0.ok hp how,h0.s,?_,h0.now,?_,λh5 hq=>?_⟩
   · show(chD M1 x e nn).length=_
     rw[chD,dif_pos hp.hn,List.length_set];exact h0.d
   · rw[hlen,qel]
     have:=h0.ok.ver;have:=h0.g;split <;> omega
   · show ¬chQ M1 x e=[]
     have:=h0.q (λy hy=>h5 y (List.mem_append_left _ hy)) hq;unfold chQ;split
     · simp
     · rw[if_neg (h5 x (by simp))]
       exact this
  exact⟨hi,λy ys' hy=>pre hi y ys' (by rw[hl,hy])⟩
theorem qvy{M:qa4}{n th t e:Nat}{l:List ChgC}(hok:OkA M n th)(hn:n<=40000)(ht:t<th)(hsz:∀x∈l,x.key.size<=1000000):qpd M t e l:=by
 intro hsh hfo hhe hfi k hk hnd M' g' hc;have hl3:=hsh.2.1;obtain⟨hi,h2⟩:=qm7 hok (by omega) ht hsh hfo hhe hfi hsz hc (l.drop k) (List.take_append_drop k l).symm;refine⟨h2 l[k] (l.drop (k+1)) (List.drop_eq_getElem_cons hk) hnd,?_⟩;have:=hi.g;rw[List.length_take]at this;omega
end
section
open Go.RowKit
section
variable {g:Own8}{w:World}{lo a b t:Nat}{P:qag}{M:qa4}{ty:TypeId}{f:qa5}{d:FrD}
def qal(lo a:Nat)(P:qag)(b t:Nat)(ty:TypeId)(R:qa4->qa5->FrD->Prop)(g:Own8)(w:World)(r:Ending)(w':World):Prop:=r=.returned (.tuple #[])/\∃M' f' d',R M' f' d'/\WTo lo a P b t ty g w M' f' d' w'
def qmk(M:qa4)(t:Nat)(f:qa5)(d:FrD)(h0:Nat)(go:qa5->qa5)(M':qa4)(f':qa5)(d':FrD):Prop:=d'=d /\
 ((qe9 f.call d.gr≠0/\M'=M/\f'= {f with code:=qe9 f.call d.gr,phase:=7})\/(qe9 f.call d.gr=0/\h0≠0/\M'=M/\f'= {f with code:=7,phase:=7}) \/
  (qe9 f.call d.gr=0/\h0=0/\M'= {M with H:=M.H.set t M.rnow}/\f'=go {f with ep:=M.now}))
theorem WSt.c0(h:WSt g w lo a P M b t ty f d):w.cell? ⟨b,0,none⟩=some (.pointer (some ⟨a,0,none⟩)):=h.box.c 0 rfl
theorem WSt.c1(h:WSt g w lo a P M b t ty f d):w.cell? ⟨b,1,none⟩=some (.int .i64 (t:Int)):=h.box.c 1 rfl
theorem qhh(h:WSt g w lo a P M b t ty f d)(ht:t<M.H.length):Calls prog 181 #[.pointer (some ⟨b,0,none⟩)] w (qal lo a P b t ty (qmk M t f d M.H[t] (λf=> {f with phase:=1})) g w):=by
 have H:=hid h;have c0:=h.c0;have c1:=h.c1;have hl:=h.box.lt;have TE:=hid (qg5 h.drew ht);generalize hh0:M.H[t]=h0 at *;clear h hh0;go_enter func181,ntmps181;go_upto_region 0 with fail;go_still_tail 11,(by kernel_rfl);change wpList _ _ _ _ _ (World.drew w);have HE1:Hid (ExtB lo b g g w w.drew):=hid (ExtB.below (Below.refl _ _).drew);generalize hw1:World.drew w=w1 at *;clear hw1 c0 c1 hl;go_wp2_with fail;refine TE.out.mono ?_;rintro r w2 (⟨h1,rfl,g2,W2,E2⟩|⟨h1,h2,rfl,g2,W2,E2⟩|⟨h1,h2,rfl,g2,W2,E2⟩)
 · have HW:=hid W2
   have HE:=hid E2;have H1:=hid h1;clear W2 E2 h1;go_wp2_with fail;exact bodyPost_ret (v:=.tuple #[]) (by simp[results,results181]) rfl ⟨rfl,M,_,d,⟨rfl,.inl ⟨H1.out,rfl,rfl⟩⟩,g2,HW.out,HE1.out.trans HE.out⟩
 · have HW:=hid W2
   have HE:=hid E2;have H1:=hid h1;have H2:=hid h2;clear W2 E2 h1 h2;go_wp2_with fail;exact bodyPost_ret (v:=.tuple #[]) (by simp[results,results181]) rfl ⟨rfl,M,_,d,⟨rfl,.inr (.inl ⟨H1.out,H2.out,rfl,rfl⟩)⟩,g2,HW.out,HE1.out.trans HE.out⟩
 · have HW:=hid W2
   have HE:=hid E2;have H1:=hid h1;have H2:=hid h2;have c7:=W2.box.c 7 rfl;have f7:=W2.box.fr 7;have hl:=W2.box.lt;clear W2 E2 h1 h2;go_wp2_with fail;exact bodyPost_ret (v:=.tuple #[]) (by simp[results,results181]) rfl ⟨rfl,_,_,d,⟨rfl,.inr (.inr ⟨H1.out,H2.out,rfl,rfl⟩)⟩,g2,HW.out.set 7 (.int .i64 1) {f with ep:=M.now,phase:=1} rfl ⟨rfl,rfl,rfl,rfl⟩,(HE1.out.trans HE.out).trans (ExtB.set _ _)⟩
theorem qhg(h:WSt g w lo a P M b t ty f d)(ht:t<M.H.length):Calls prog 187 #[.pointer (some ⟨b,0,none⟩)] w (VTo lo a P b t ty g w {M with H:=M.H.set t 0} {f with phase:=7} d):=by
 have c0:=h.c0;have c1:=h.c1;have hl:=h.box.lt;have TE:=hid (qg4 h.drew ht);clear h;go_enter func187,ntmps187;go_upto_region 0 with fail;go_still_tail 11,(by kernel_rfl);change wpList _ _ _ _ _ (World.drew w);have HE1:Hid (ExtB lo b g g w w.drew):=hid (ExtB.below (Below.refl _ _).drew);generalize hw1:World.drew w=w1 at *;clear hw1 c0 c1 hl;go_wp2_with fail;refine TE.out.mono ?_;rintro r w2⟨rfl,hto⟩;have HTO:=hid hto;clear hto;go_wp2_with fail;exact bodyPost_ret (v:=.tuple #[]) (by simp[results,results187]) rfl ⟨rfl,WTo.trans HE1.out HTO.out⟩
theorem qp1{W W':World}{b i0 i1 i2 i3 i4 i5:Nat}{v0 v1 v2 v3 v4 v5:Value}(hb:Below W.heap.size W W')(hl:b<W.heap.size)(h:W.cell? ⟨b,i0,none⟩=some v0/\W.cell? ⟨b,i1,none⟩=some v1/\W.cell? ⟨b,i2,none⟩=some v2/\W.cell? ⟨b,i3,none⟩=some v3/\W.cell? ⟨b,i4,none⟩=some v4/\W.cell? ⟨b,i5,none⟩=some v5):
 W'.cell? ⟨b,i0,none⟩=some v0/\W'.cell? ⟨b,i1,none⟩=some v1/\W'.cell? ⟨b,i2,none⟩=some v2/\W'.cell? ⟨b,i3,none⟩=some v3/\W'.cell? ⟨b,i4,none⟩=some v4/\W'.cell? ⟨b,i5,none⟩=some v5:=
 ⟨(hb.cell (p:=⟨b,i0,none⟩) hl).trans h.1,(hb.cell (p:=⟨b,i1,none⟩) hl).trans h.2.1,(hb.cell (p:=⟨b,i2,none⟩) hl).trans h.2.2.1,(hb.cell (p:=⟨b,i3,none⟩) hl).trans h.2.2.2.1,(hb.cell (p:=⟨b,i4,none⟩) hl).trans h.2.2.2.2.1,(hb.cell (p:=⟨b,i5,none⟩) hl).trans h.2.2.2.2.2⟩
def qi2(M:qa4)(c ln code:Int)(M':qa4):Prop:=
 (qa9 c=0/\ln=0/\code=1/\M'=M)\/(¬qa9 c=0/\ln=0/\code=4/\M'=M/\∀j (hj:j<M.S.length),¬M.S[j].cls= -1) \/
 (∃(i k:Nat) (hi:i<M.S.length),¬qa9 c=0/\quz M.S c i k true/\ln=((2+i*8+k*qa9 c:Nat):Int)/\code=0/\M'= {M with S:=M.S.set i (M.S[i].put c k)})
theorem qg3{a:Nat}(h:qa6 g w a P M)(n:Int):Calls prog 245 #[.pointer (some ⟨a,0,none⟩),.int .i64 n] w λr w'=>∃ln code M',r=.returned (.tuple #[.int .i64 ln,.int .i64 (qbh n),.int .i64 code])/\qi2 M (qbh n) ln code M'/\ATo g w w' a P M':=by
 refine(qtb h n).mono ?_;rintro r w' (⟨h1,rfl,rfl⟩|⟨h1,rfl,rfl,h2⟩|⟨i,k,hi,h0,h1,rfl,h2⟩)
 · exact⟨_,_,M,rfl,.inl ⟨h1,rfl,rfl,rfl⟩,g,h,Ext.refl _ _⟩
 · exact⟨_,_,M,rfl,.inr (.inl ⟨h1,rfl,rfl,rfl,h2⟩),g,h,Ext.refl _ _⟩
 · exact⟨_,_,_,rfl,.inr (.inr ⟨i,k,hi,h0,h1,rfl,rfl,rfl⟩),h2⟩
def TkR(M:qa4)(f:qa5)(d:FrD)(M':qa4)(f':qa5)(d':FrD):Prop:=d'=d/\∃ln code,qi2 M (qbh (qcz f.call)) ln code M' /\
 ((code≠0/\f'= {f with cls:=qbh (qcz f.call),code:=code,phase:=6})\/(code=0/\f'= {f with cls:=qbh (qcz f.call),line:=ln,piece:=0,phase:=4}))
theorem qir(h:WSt g w lo a P M b t ty f d)(hk:f.call.key.size<=1000000)(hv:f.call.val.size<=1000000):Calls prog 184 #[.pointer (some ⟨b,0,none⟩)] w (qal lo a P b t ty (TkR M f d) g w):=by
 have H:=hid h;have c0:=h.c0;have c2:=h.box.c 2 rfl;have c3:=h.box.c 3 rfl;have c4:=h.box.c 4 rfl;have c5:=h.box.c 5 rfl;have c6:=h.box.c 6 rfl;have hl:=h.box.lt;have HC0:=hid (And.intro c0 (And.intro c2 (And.intro c3 (And.intro c4 (And.intro c5 c6)))));have TS:=hid (λW=>qhs f.call W hk hv);obtain⟨c,hc⟩:∃c,c=qbh (qcz f.call):=⟨_,rfl⟩;have HTK:Hid (∀W,Below w.heap.size w W->Calls prog 245 #[.pointer (some ⟨a,0,none⟩),.int .i64 (qcz f.call)] W λr w'=>∃ln code M',r=.returned (.tuple #[.int .i64 ln,.int .i64 c,.int .i64 code])/\qi2 M c ln code M'/\ATo g W w' a P M'):=hid λW hW=>by rw[hc];exact qg3 (H.out.below hW).ar _
 have HC:=hid hc;clear h hc;go_enter func184,ntmps184;go_upto_region 0 with fail;go_cut [2,3,4] (λv2 v3 v4 wx=>∃ln code M' g',v2=.int .i64 ln/\v3=.int .i64 c/\v4=.int .i64 code/\qi2 M c ln code M'/\WSt g' wx lo a P M' b t ty f d/\ExtB lo b g g' w wx)
 case first =>
  go_region_held3 (λW=>W.cell? ⟨b,0,none⟩=some (.pointer (some ⟨a,0,none⟩))/\W.cell? ⟨b,2,none⟩=some (.int .i64 f.call.kind)/\W.cell? ⟨b,3,none⟩=some (.string f.call.key)/\W.cell? ⟨b,4,none⟩=some (.string f.call.val)/\W.cell? ⟨b,5,none⟩=some (.string f.call.tx)/\W.cell? ⟨b,6,none⟩=some (.slice f.call.gA f.call.gn f.call.gc)) (first|(with_reducible exact HSK)|(with_reducible refine qp1 (W:=w) ?_ hl HC0.out;(repeat(first|with_reducible exact Below.refl _ _|with_reducible assumption|with_reducible refine Below.drew ?_|with_reducible refine qa1 ?_ _));done)|go_keep) (first|(go_at_call 246;refine(TS.out _).mono ?_;rintro r w1⟨rfl,hb1⟩;have ST1:Below w.heap.size w w1:=(by refine Below.trans ?_ (hb1.mono ?_);exact(by with_reducible repeat(first|exact Below.refl _ _|assumption|refine Below.drew ?_|refine qa1 ?_ _|refine Below.alloc ?_ (by first|omega|simp <;> omega) _|refine Below.setCell ?_ (by first|omega|simp <;> omega) _));(first|exact Nat.le_refl _|(simp;done)|(simp;omega)|omega));clear hb1)|(go_at_call 245;refine(HTK.out _ ?_).mono ?_;exact(by with_reducible repeat(first|exact Below.refl _ _|assumption|refine Below.drew ?_|refine qa1 ?_ _|refine Below.alloc ?_ (by first|omega|simp <;> omega) _|refine Below.setCell ?_ (by first|omega|simp <;> omega) _));rintro r w2⟨ln,code,M',rfl,htk,g2,A2,E2⟩;have HTR:=hid htk;have HW2:=hid ((H.out.below (by with_reducible repeat(first|exact Below.refl _ _|assumption|refine Below.drew ?_|refine qa1 ?_ _|refine Below.alloc ?_ (by first|omega|simp <;> omega) _|refine Below.setCell ?_ (by first|omega|simp <;> omega) _))).ext A2 E2);have HE2:=hid ((show ExtB lo b g g w _ from ExtB.below (by with_reducible repeat(first|exact Below.refl _ _|assumption|refine Below.drew ?_|refine qa1 ?_ _|refine Below.alloc ?_ (by first|omega|simp <;> omega) _|refine Below.setCell ?_ (by first|omega|simp <;> omega) _))).trans (.of_ext E2));have HSK:=(show w2.cell? ⟨b,0,none⟩=some (.pointer (some ⟨a,0,none⟩))/\w2.cell? ⟨b,2,none⟩=some (.int .i64 f.call.kind)/\w2.cell? ⟨b,3,none⟩=some (.string f.call.key)/\w2.cell? ⟨b,4,none⟩=some (.string f.call.val)/\w2.cell? ⟨b,5,none⟩=some (.string f.call.tx)/\w2.cell? ⟨b,6,none⟩=some (.slice f.call.gA f.call.gn f.call.gc)from⟨HW2.out.c0,HW2.out.box.c 2 rfl,HW2.out.box.c 3 rfl,HW2.out.box.c 4 rfl,HW2.out.box.c 5 rfl,HW2.out.box.c 6 rfl⟩);clear htk A2 E2));all_goals
   go_wp2_with fail;go_meet;refine⟨ln,code,M',g2,rfl,rfl,rfl,HTR.out,?_,?_⟩
   · first|exact HW2.out|exact HW2.out.drew|exact HW2.out.drewN _
   · first|exact HE2.out|exact HE2.out.trans (ExtB.below (Below.refl _ _).drew)|exact HE2.out.trans (ExtB.below (qa1 (Below.refl _ _) _))
 obtain⟨ln,code,M',g1,rfl,rfl,rfl,htr,W1,E1⟩:=hcut;obtain⟨w1,hw1⟩:∃x,x=wc:=⟨_,rfl⟩;subst hw1;have HTR:=hid htr;have HW1:=hid W1;have HE1:=hid E1;have c19:=W1.box.c 19 rfl;have f19:=W1.box.fr 19;have hl1:=W1.box.lt;clear htr W1 E1 c0 c2 c3 c4 c5 c6 hl H TS HTK HC0;go_upto_region 2 with fail;have HW2:=hid (HW1.out.set 19 (.int .i64 c) {f with cls:=c} rfl ⟨rfl,rfl,rfl,rfl⟩);have HE2:=hid (HE1.out.trans (ExtB.set (lo:=lo) (b:=b) 19 (.int .i64 c)));generalize World.setCell w1 _ _=w2 at *;clear c19 f19 hl1 HW1 HE1;by_cases h0:code=0
 · subst h0
   have c18:=HW2.out.box.c 18 rfl;have c20:=HW2.out.box.c 20 rfl;have c7:=HW2.out.box.c 7 rfl;have f18:=HW2.out.box.fr 18;have f20:=HW2.out.box.fr 20;have f7:=HW2.out.box.fr 7;have hl:=HW2.out.box.lt;go_wp2_with fail;refine bodyPost_ret (v:=.tuple #[]) (by simp[results,results184]) rfl ⟨rfl,M',_,d,⟨rfl,ln,0,by rw[<-HC.out];exact HTR.out,.inr ⟨rfl,rfl⟩⟩,g1,?_,((HE2.out.trans (ExtB.set 18 _)).trans (ExtB.set 20 _)).trans (ExtB.set 7 _)⟩;rw[<-HC.out];exact((HW2.out.set 18 (.int .i64 ln) {f with cls:=c,line:=ln} rfl ⟨rfl,rfl,rfl,rfl⟩).set 20 (.int .i64 0) {f with cls:=c,line:=ln,piece:=0} rfl ⟨rfl,rfl,rfl,rfl⟩).set 7 (.int .i64 4) {f with cls:=c,line:=ln,piece:=0,phase:=4} rfl ⟨rfl,rfl,rfl,rfl⟩
 · have hb:(code != 0)=true:=by rw[bne_iff_ne];exact h0
   have H0:=hid h0;have TF:=hid (qcb HW2.out code);clear h0;go_wp2_with fail;refine TF.out.mono ?_;rintro r w3⟨rfl,hto⟩;have HTO:=hid hto;clear hto TF;go_wp2_with fail;refine bodyPost_ret (v:=.tuple #[]) (by simp[results,results184]) rfl ⟨rfl,M',_,d,⟨rfl,ln,code,by rw[<-HC.out];exact HTR.out,.inl ⟨H0.out,rfl⟩⟩,?_⟩;rw[<-HC.out];exact WTo.trans HE2.out HTO.out
end
end
end Go.Proofs.YtecikkjbnkhhkaaGreat
