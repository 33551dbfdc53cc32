/- A part of the walk. -/
import Derived.Test.YtecikkjbnkhhkaaGreatP48
import Derived.Test.YtecikkjbnkhhkaaGreatP50
namespace Go.Proofs.YtecikkjbnkhhkaaGreat
open _root_.Go.Proofs.Tryz
set_option maxHeartbeats 4000000
set_option maxRecDepth 100000
section
open Go.RowKit
theorem qj4(n:Nat):(formed n).length=n:=by
 unfold formed;simp only[List.length_map,List.length_set,List.length_replicate]
theorem qsa{n th:Nat}(h:18<=n):OkA (newM n th) 0 th:=by
 refine⟨⟨Nat.le_refl _,Nat.le_refl _,Nat.le_refl _,Nat.le_refl _,Nat.le_refl _,Nat.zero_le _⟩,List.Pairwise.nil,Nat.le_refl _,Nat.le_refl _,?_,λi _ x hx=>?_,λx hx=>?_,?_,?_⟩
 · show 2+8*(List.replicate ((n-2)/8) (qd3 (-1))).length<=(formed n).length
   rw[List.length_replicate,qj4];omega
 · cases hx
 · cases hx
 · exact List.length_replicate
 · exact List.length_replicate
theorem qrn:∀i (h:i<(List.replicate 4 thr0).length),(List.replicate 4 thr0)[i].busy=false:=λi h=>by
 rw[List.getElem_replicate]
 rfl
theorem qy1{n th:Nat}(h:18<=n):QOK (newM n th) (List.replicate 4 thr0) (λ_=>d0) [] 0 th:=
 ⟨qsa h,⟨rfl,rfl⟩,λi hi=>.inl (qrn i hi),Nat.le_refl _⟩
structure AwIn(k:Nat)(M:qa4)(T:List ThrC)(D:Nat->FrD):Prop where
 oth:∀i (h:i<T.length),i≠0->T[i].busy=false
 cur:k<6->∃h:0<T.length,T[0].busy=true/\StA k M T[0].f (D 0)
 fin:¬k<6->(∀i (h:i<T.length),T[i].busy=false)/\Don M
def AwAt(k wb a:Nat)(P:qag)(c:CfgC)(g:Own8)(w:World)(r:Option Nat):Prop:=
 ∃M T D steps sA sc S,WAt g w wb a P M c T D steps sA sc S/\r=qa8 sA sc/\QOK M T D S (k+1) c.th/\AwIn k M T D/\0<=steps/\steps<=((k+1:Nat):Int)
def putA:qa7:=⟨2,⟨#[97]⟩,⟨#[49]⟩,ByteArray.empty,none,0,0⟩
def qBi(k wb a:Nat)(P:qag)(c:CfgC)(r:Option Nat)(g:Own8)(w:World)(e:Ending)(w':World):Prop:=∃code:Int,e=.returned (.int .i64 code)/\∃g' r',AwAt k wb a P c g' w' r'/\qaz g w wb r g' w' r'
def qA3(wb a:Nat)(P:qag)(c:CfgC)(r:Option Nat)(g:Own8)(w:World)(e:Ending)(w':World):Prop:=e=.returned (.int .i64 0)/\∃g' r',AwAt 0 wb a P c g' w' r'/\qaz g w wb r g' w' r'
def QA(k:Nat)(c:CfgC)(_:Int)(c':CfgC)(M':qa4)(T':List ThrC)(D':Nat->FrD)(S':List qap):Prop:=c'=c/\QOK M' T' D' S' (k+1) c.th/\AwIn k M' T' D'
def QA0(c:CfgC)(code:Int)(c':CfgC)(M':qa4)(T':List ThrC)(D':Nat->FrD)(S':List qap):Prop:=c'=c/\code=0/\QOK M' T' D' S' 1 c.th/\AwIn 0 M' T' D'
theorem qn7(w:World):qd2 w 0 putA []:=qd2.single (by decide) (by decide) (by omega)
section
variable {g:Own8}{w:World}{wb a:Nat}{P:qag}{c:CfgC}{r:Option Nat}
theorem qB6(hth:c.th=1)(h:WAt g w wb a P (newM 18 1) c (List.replicate 4 thr0) (λ_=>d0) 0 none 0 []):
 Calls prog 14 #[.pointer (some ⟨wb,0,none⟩),.agg (evL 1 0 0 putA none 0 0).toArray] w (qA3 wb a P c none g w):=by
 refine(qh1 (Q:=QA0 c) h ⟨by decide,by decide⟩ (κ:=1) (m:=0) rfl (by decide) (t:=0) λW hW=>?_).mono ?_
 · have hq:=qy1 (n:=18) (th:=1) (by decide)
   refine(qil (t:=0) (h.below hW) (by omega) (by omega) (by decide) (qn7 W).inn (by decide) (qn7 W).gr.2.2 (.inl rfl) rfl (by decide) ⟨by decide,by decide⟩).mono ?_;rintro e w2⟨rfl,A2,c2,gs,x,A',c',hsm,hw2,hk2⟩;refine⟨0,rfl,g,c,newM 18 1,_,_,A',c',_,⟨rfl,rfl,⟨?_,⟨rfl,rfl⟩,?_,Nat.le_refl _⟩,?_⟩,hw2,hk2⟩
   · rw[hth];exact(qsa (by decide)).mono (by decide)
   · exact hq.thr.set (Nat.zero_le _) _ _ (.inr ⟨rfl,FrOK.begin (qn7 W) (by decide) hsm,0,rfl,Nat.lt_succ_self _⟩)
   · refine⟨λi hi h0=>?_,λ_=>⟨by rw[List.length_set];exact Nat.succ_pos 3,rfl,⟨rfl,rfl,rfl,?_⟩,?_⟩,λh6=>absurd (by decide) h6⟩
     · rw[List.getElem_set_ne (λe=>h0 e.symm)]
       exact qrn i _
     · exact qol hsm
     · exact⟨⟨rfl,rfl,rfl,rfl,rfl,rfl,qj4 18⟩,rfl,rfl,rfl,rfl,rfl,rfl⟩
 · rintro e w'⟨steps',h1,h2,code,rfl,g',c',M',T',D',sA',sc',S',⟨rfl,rfl,hq,hi⟩,hw,hk⟩
   exact⟨rfl,g',_,⟨M',T',D',steps',sA',sc',S',hw,rfl,hq,hi,by omega,by omega⟩,hk⟩
theorem qB5(hth:c.th=1){k:Nat}(hk6:k<6)(h:AwAt k wb a P c g w r):
 Calls prog 14 #[.pointer (some ⟨wb,0,none⟩),.agg (evL 2 0 0 qig none 0 0).toArray] w (qBi (k+1) wb a P c r g w):=by
 obtain⟨M,T,D,steps,sA,sc,S,hw,rfl,q,hin,h0,h1⟩:=h;have hT:=hw.bx.len;have hsl:=q.sl;obtain⟨htT,hb,hst⟩:=hin.cur hk6;refine(qh1 (Q:=QA (k+1) c) hw ⟨by omega,h0⟩ (κ:=2) (m:=1) rfl (by decide) (t:=0) λW hW=>?_).mono ?_
 · have hwW:=hw.below hW
   rcases q.thr 0 htT with hb'|⟨_,hfr,si,hsi1,hsi⟩
   · rw[hb]at hb';cases hb'
   have hk2:=hst.1.kind;refine(qik (t:=0) (R:=qA2 M (3*(k+1)) c.th 0) hwW (by omega) (by omega) htT hb hsi1 hsi (by omega) ⟨by omega,h0⟩ hfr.kind (λX hX=>?_)).mono ?_
   · have hwX:=hwW.below hX
     have hfi:=(hwX.thr 0 htT).fin;unfold qpc;rw[hk2,if_neg (by decide),if_neg (by decide)];exact qn9 hwX.ar q.ok (by omega) (by omega) hfi hfr (by omega)
   · rintro e w2⟨rfl,f1,d1,M',f',d',g',c',T',D',S',hsame,⟨hr,hp⟩,hcc,hSl,hw2,hkk,hcase⟩
     rw[show c'=c from hcc]at hw2;have hst':=qvh hk6 (hst.same hsame) hp;refine⟨0,rfl,g',c,M',T',D',sA,sc,S',⟨rfl,⟨hr.ok.mono (by omega),⟨hr.now.1.trans q.now.1,hr.now.2.trans q.now.2⟩,?_,by omega⟩,?_⟩,hw2,hkk⟩
     · rw[hr.len,hSl]
       rcases hcase with⟨h7,rfl,rfl⟩|⟨h7,rfl,rfl⟩
       · refine q.thr.set (Nat.le_refl _) _ _ (.inr ⟨hb,?_,si,hsi1,hsi⟩)
         rcases hr.fr with e|e
         · exact absurd e h7
         · exact e
       · exact q.thr.set (Nat.le_refl _) _ _ (.inl rfl)
     · rcases hcase with⟨h7,rfl,rfl⟩|⟨h7,rfl,rfl⟩
       · have h5:k+1<6:=by
          rcases Nat.lt_or_ge (k+1) 6 with h|h
          · exact h
          · have:k=5:=by omega
            subst this;exact absurd hst'.2.2 h7
         refine⟨λi hi h0=>?_,λ_=>⟨by rw[List.length_set];exact htT,?_⟩,λh6=>absurd h5 h6⟩
         · rw[List.getElem_set_ne (λe=>h0 e.symm)]
           exact hin.oth i _ h0
         · simp only[List.getElem_set_self]
           exact⟨hb,hst'⟩
       · have h5:¬k+1<6:=by
          intro h;have hp7:=hst'.2;rcases k with _|_|_|_|_|k
          · have:=hp7.2.2.1;omega
          · have:=hp7.2.2.1;omega
          · have:=hp7.2.2.1;omega
          · have:=hp7.2.2.1;omega
          · have:=hp7.2;omega
          · omega
         have hk5:k=5:=by omega
         subst hk5;have hall:∀i (hi:i<(T.set 0 thr0).length),(T.set 0 thr0)[i].busy=false:=λi hi=>by
          rw[List.getElem_set];split
          · rfl
          · rename_i h0
            exact hin.oth i _ (λe=>h0 e.symm)
         exact⟨λi hi _=>hall i hi,λh=>absurd h h5,λ_=>⟨hall,hst'.2.1⟩⟩
 · rintro e w'⟨steps',h1',h2,code,rfl,g',c',M',T',D',sA',sc',S',⟨rfl,hq,hi⟩,hw',hk⟩
   exact⟨code,rfl,g',_,⟨M',T',D',steps',sA',sc',S',hw',rfl,hq,hi,by omega,by omega⟩,hk⟩
end
end
section
open Go.RowKit
section
variable {g:Own8}{w:World}{wb a:Nat}{P:qag}{M:qa4}{c:CfgC}{T:List ThrC}{D:Nat->FrD}{steps:Int}{sA:Option Addr}{sc:Nat}{S:List qap}
theorem qv3(h:WAt g w wb a P M c T D steps sA sc S)(hd:Don M)(hqn:M.qn<=900000):Calls prog 18 #[.pointer (some ⟨wb,0,none⟩)] w (que w):=by
 have TA:=hid (λW (hW:Below w.heap.size w W)=>qfj (h.below hW));have TB:=hid (λW (hW:Below w.heap.size w W)=>qxg (h.below hW).ar hd hqn);clear h hd hqn;go_enter func18,ntmps18;go_upto_region 1 with fail;generalize hw1:World.alloc _ _=w1;have R2:w1.heap[w.heap.size]? =some (.cells #[.slice none 0 0,.slice none 0 0] 48 (0,0)):=by rw[<-hw1];exact qaq _ _
 have b1:Below w.heap.size w w1:=by rw[<-hw1];exact(Below.refl _ _).alloc (Nat.le_refl _) _
 have HB1:=hid b1;have hl1:=qa0 R2;have HR2:=hid R2;clear hw1 b1 R2;go_wp2_with fail;refine(TA.out w1 HB1.out).mono ?_;rintro e w2⟨rfl,he⟩;rw[he];clear he TA;go_wp2_with fail;refine(TB.out w1 HB1.out).mono ?_;rintro e w3⟨A,cc,rfl,harr,hb3⟩;have R3:=(hb3.block _ hl1).trans HR2.out;have HR3:=hid R3;have f0:=frozen_of_row w3 _ 0 _ _ R3;have f1:=frozen_of_row w3 _ 1 _ _ R3;have z0:=cell_of_row w3 _ 0 _ _ _ R3;have z1:=cell_of_row w3 _ 1 _ _ _ R3;have hl3:=qa0 R3;have HB3:=hid (HB1.out.trans (hb3.mono HB1.out.size));have HA:=hid harr;clear R3 hb3 harr;go_wp2_with fail;generalize hw8:World.setCell (World.setCell w3 _ _) _ _=w8;have R8:w8.heap[w.heap.size]? =some (.cells #[.slice A 1 cc,.slice none 0 0] 48 (0,0)):=by rw[<-hw8];exact heap_setCell_same _ _ 1 _ _ _ (heap_setCell_same _ _ 0 _ _ _ HR3.out)
 have b8:Below w.heap.size w w8:=by rw[<-hw8];exact(HB3.out.setCell (Nat.le_refl _) _).setCell (Nat.le_refl _) _
 have hp8:Own PrC.enc 75 2 w8 w1.heap.size A cc [prA]:=by
  rw[<-hw8];exact(HA.out.keep λb _ _ hlo _=>Below.heap_setCell _ _ _ _ (by show b≠w.heap.size;omega)).keep λb _ _ hlo _=>Below.heap_setCell _ _ _ _ (by show b≠w.heap.size;omega)
 have c0:=cell_of_row w8 _ 0 _ _ _ R8;have c1:=cell_of_row w8 _ 1 _ _ _ R8;refine bodyPost_ret (v:=.agg #[.slice A 1 cc,.slice none 0 0]) (by simp[results,results18,go_sem,c0,c1]) rfl ⟨A,cc,rfl,hp8.lower (by omega),b8⟩
theorem WAt.thrRange(h:WAt g w wb a P M c T D steps sA sc S):w.rangeAt wb 8 (T.flatMap ThrC.enc):=λj v hv=>by
 have hl:(T.flatMap ThrC.enc).length=T.length*30:=qao ThrC.enc_len T
 have hj:=(List.getElem?_eq_some_iff.1 hv).1
 rw[hl]at hj
 obtain⟨q,r,rfl,hq,hr⟩:∃q r,j=q*30+r/\q<T.length/\r<30:=⟨j/30,j%30,by omega,by omega,by omega⟩
 rw[qb0 ThrC.enc_len T q hq r hr]at hv
 have:=h.bx.thr hq r hr hv
 rw[Nat.add_assoc]at this
 exact this
theorem qrm:(prog.info? 92).map (·.size)=some 120:=by kernel_rfl
theorem qzb(cs:Array Value){i:Nat}(hi:i<4)(W:World):(Instr.index 92 (.agg cs) (.int .i64 (i:Int))).run prog W=.ok (.agg (cs.extract (i*30) (i*30+30))) W:=by
 rcases(by omega:i=0\/i=1\/i=2\/i=3)with rfl|rfl|rfl|rfl <;> kernel_rfl
theorem qva(hT:T.length=4){i:Nat}(hi:i<T.length)(W:World):(Instr.index 92 (.agg (T.flatMap ThrC.enc).toArray) (.int .i64 (i:Int))).run prog W=.ok (.agg T[i].enc.toArray) W:=by
 rw[qzb _ (by omega)];congr 2;refine Array.ext' (List.ext_getElem? λj=>?_);have hl:(T.flatMap ThrC.enc).length=T.length*30:=qao ThrC.enc_len T;rw[Array.toList_extract,List.extract_eq_take_drop,show i*30+30-i*30=30 by omega,List.getElem?_take];by_cases hj:j<30
 · rw[if_pos hj,List.getElem?_drop]
   exact qb0 ThrC.enc_len T i hi j hj
 · rw[if_neg hj]
   exact(List.getElem?_eq_none (by rw[ThrC.enc_len];omega)).symm
theorem qh3(w:World)(cur:Array Value)(t:TypeId){n:Nat}(h:n<=cur.size):(w.alloc (.cells cur t)).there w.heap.size 0 n:=by
 have R:(w.alloc (.cells cur t)).heap[w.heap.size]? =some (.cells cur t (0,0)):=qaq w (.cells cur t);intro j hj;refine⟨?_,frozen_of_row _ _ _ _ _ R⟩;rw[cell_of_row _ _ _ _ _ _ R,Array.getElem?_eq_getElem (by omega)];rfl
theorem qjm(h:WAt g w wb a P M c T D steps sA sc S)(hb:∀i (hi:i<T.length),T[i].busy=false):Calls prog 19 #[.pointer (some ⟨wb,0,none⟩)] w λe w'=>e=.returned (.slice none 0 0)/\Below w.heap.size w w':=by
 have HRG:=hid h.thrRange;have hT:=h.bx.len;have hl:=h.bx.lt;have HIX:=hid (λi hi W=>qva (T:=T) hT (i:=i) hi W);have hfl:(T.flatMap ThrC.enc).length=120:=by rw[qao ThrC.enc_len,hT]
 have HSZ:=hid (show(prog.info? 92).map (·.size)=some (T.flatMap ThrC.enc).length by rw[hfl];exact qrm);have HB:=hid hb;clear h hb hfl;go_enter func19,ntmps19;go_wp2_with(refine wpList_load_mid rfl 92 (.tmp 11) rfl wb 8 (by first|rfl|simp[Act.eval]) _ _ HRG.out underlying92 rfl HSZ.out ?_);generalize T.flatMap ThrC.enc=L at *;have hTi:(T.length:Int)=4:=by omega
 clear HRG HSZ;go_loopw [3,13] (λv3 v13 wr=>∃k:Nat,k<=T.length/\v3=.slice none 0 0/\v13=.int .i64 k/\Below w.heap.size w wr) (λ_ v13 _=>T.length-(intOf v13).toNat)
 case atStart=>exact⟨0,Nat.zero_le _,rfl,rfl,Below.refl _ _⟩
 case round =>
  obtain⟨k,hk,rfl,rfl,hbr⟩:=hrel;have HBR:=hid hbr;clear hbr;by_cases hlt:k<T.length
  · have hki:(k:Int)<4:=by omega
    have hix:=HIX.out k hlt;have hbz:=HB.out k hlt;have hone:=T[k].enc_one;have hlen:=T[k].enc_len;obtain⟨E,hE⟩:∃E,E=T[k].enc:=⟨_,rfl⟩;rw[<-hE]at hix hone hlen;have h0:E[0]? =some (.bool false):=by rw[hE,<-hbz];rfl
    have hsz:(prog.info? 91).map (·.size)=some E.toArray.size:=by rw[List.size_toArray,hlen];kernel_rfl
    have hall:=all_oneCell_toArray hone;have hge:E.toArray.size<=30:=by rw[List.size_toArray,hlen];exact Nat.le_refl _
    clear hE hbz;have b4:∀cur:Array Value,Below w.heap.size w ((wr.alloc (.cells cur 91)).setCells wr.heap.size 0 E):=λcur=>qae HBR.out.size E 0 _ (HBR.out.alloc HBR.out.size _)
    have k4:∀cur:Array Value,30<=cur.size->((wr.alloc (.cells cur 91)).setCells wr.heap.size 0 E).cell? ⟨wr.heap.size,0,none⟩=some (.bool false):=λcur hc=>World.rangeAt_setCells_same _ _ 0 E (qh3 _ _ _ (by omega)) 0 _ h0
    have HB4:=hid b4;have HK4:=hid k4;clear b4 k4 h0;go_wp2_with(refine wpList_store_mid rfl 91 (.tmp 5) (.tmp 16) rfl wr.heap.size 0 E.toArray (by first|rfl|simp[Act.eval]) (by first|rfl|simp[Act.eval]) (qh3 _ _ _ (by exact hge)) hsz hall ?_;generalize hw5:World.setCells _ _ _ _=w5;have b5:Below w.heap.size w w5:=(by rw[<-hw5];exact HB4.out _);have k5:w5.cell? ⟨wr.heap.size,0,none⟩=some (.bool false):=(by rw[<-hw5];exact HK4.out _ (by decide));clear hw5);exact⟨⟨k+1,by omega,rfl,by go_num,b5⟩,by show T.length-((k:Int)+1).toNat<T.length-(k:Int).toNat;omega⟩
  · have hki:¬(k:Int)<4:=by omega
    go_wp2_with fail;go_ret;exact⟨rfl,HBR.out⟩
end
end
section
open Go.RowKit
theorem qiz{w w1 w':World}{g1 g':Own8}{wb:Nat}{r':Option Nat}(hb:Below w.heap.size w w1)(hg:∀b,b<w.heap.size->g1 b=0)(hwb:w.heap.size<=wb)(hk:qaz g1 w1 wb none g' w' r'):Below w.heap.size w w':=
 ⟨hk.same.1.trans hb.os,hk.same.2.1.trans hb.tape,hk.same.2.2.1.trans hb.output,Nat.le_trans hb.size hk.same.2.2.2,λi hi=>((hk.blk i ⟨by have:=hb.size;omega,hg i hi,by omega,λe=>by cases e⟩).1).trans (hb.block i hi)⟩
def AwL(wb a:Nat)(P:qag)(g1:Own8)(w1:World)(v3:Value)(wr:World):Prop:=∃k:Nat,k<=6/\v3=.int .i64 k/\∃g r,AwAt k wb a P ⟨18,1,0,0,0,0⟩ g wr r/\qaz g1 w1 wb none g wr r
def quw(w:World)(e:Ending)(w':World):Prop:=e=.returned (.bool true)/\Below w.heap.size w w'
theorem AwAt.end'{wb a:Nat}{P:qag}{c:CfgC}{g:Own8}{w:World}{r:Option Nat}(h:AwAt 6 wb a P c g w r):∃M T D steps sA sc S,WAt g w wb a P M c T D steps sA sc S/\(∀i (h:i<T.length),T[i].busy=false)/\Don M/\M.qn<=900000:=by
 obtain⟨M,T,D,steps,sA,sc,S,hw,_,q,hin,_⟩:=h;obtain⟨h1,h2⟩:=hin.fin (by decide);exact⟨M,T,D,steps,sA,sc,S,hw,h1,h2,by have:=q.ok.few.qn;omega⟩
theorem qtx(w:World):Calls prog 10 #[] w (quw w):=by
 have TN:=qog 18 1 0 w (by decide) (by decide) (by decide) (by decide) ⟨by decide,by decide⟩;simp only[show((18:Nat):Int)=18 from rfl,show((1:Nat):Int)=1 from rfl]at TN;have HTN:=hid TN;clear TN;go_enter func10,ntmps10;go_wp2_with fail;refine HTN.out.mono ?_;rintro e w1⟨wb,a,P,g,rfl,hw1,hb1,hwb,hg⟩;have HC:=hid (qB6 (c:=⟨18,1,0,0,0,0⟩) rfl hw1);unfold evL putA at HC;have HB:=hid (And.intro hb1 hg);have hlw:=hw1.bx.lt;clear hw1 hb1 hg HTN;go_wp2_with fail;refine HC.out.mono ?_;rintro e w2⟨rfl,g2,r2,haw,hk⟩;have HAW:=hid haw;have HK:=hid hk;clear haw hk HC;go_wp2_with fail;go_loopw [3] (λv3 wr=>AwL wb a P g w1 v3 wr) (λv3 _=>6-(intOf v3).toNat)
 case atStart=>exact⟨0,by decide,rfl,g2,r2,HAW.out,HK.out⟩
 case round =>
  obtain⟨k,hk,rfl,g3,r3,ha,hkp⟩:=hrel;have HKP:=hid hkp;clear hkp;by_cases hlt:k<6
  · have hki:(k:Int)<6:=by omega
    have HC:=hid (qB5 (c:=⟨18,1,0,0,0,0⟩) rfl hlt ha);unfold evL qig at HC;clear ha;go_wp2_with fail;refine HC.out.mono ?_;rintro e w4⟨code,rfl,g4,r4,ha4,hk4⟩;have HA4:=hid ha4;have HK4:=hid (HKP.out.trans hk4);clear ha4 hk4;go_wp2_with fail;exact⟨⟨k+1,by omega,by go_num,g4,r4,HA4.out,HK4.out⟩,by show 6-((k:Int)+1).toNat<6-(k:Int).toNat;omega⟩
  · have hki:¬(k:Int)<6:=by omega
    obtain rfl:k=6:=by omega
    obtain⟨M,T,D,steps,sA,sc,S,hw,hbusy,hd,hqn⟩:=ha.end';have HS:=hid (qv3 hw hd hqn);have HW:=hid hw;have HBY:=hid hbusy;have HBL:=hid (qiz HB.out.1 HB.out.2 hwb HKP.out);clear ha hw hbusy hd hqn;go_wp2_with fail;refine HS.out.mono ?_;rintro e w5⟨A,cc,rfl,hown,hb5⟩;have HO:=hid hown;have HB5:=hid hb5;clear hown hb5 HS;go_upto_region 9 with fail;generalize hw6:World.alloc _ _=w6;have R6:w6.heap[w5.heap.size]? =some (.cells #[.slice A 1 cc,.slice none 0 0] 48 (0,0)):=by rw[<-hw6];exact qaq _ _
    have b6:Below w5.heap.size w5 w6:=by rw[<-hw6];exact(Below.refl _ _).alloc (Nat.le_refl _) _
    have HB6:=hid (HB5.out.trans (b6.mono HB5.out.size));have HO6:=hid (HO.out.below b6);have HR6:=hid R6;have hl6:=qa0 R6;have HP:=hid (qjm (HW.out.below HB6.out) HBY.out);clear hw6 R6 b6;go_wp2_with fail;refine HP.out.mono ?_;rintro e w7⟨rfl,hb7⟩;have R7:=(hb7.block _ hl6).trans HR6.out;have q0:=cell_of_row w7 _ 0 _ _ _ R7;have hl7:=qa0 R7;have HB7:=hid (HBL.out.trans ((HB6.out.trans (hb7.mono HB6.out.size)).mono HBL.out.size));obtain⟨x,off,rfl,hx,hcell⟩:∃x off,A=some ⟨x,off,none⟩/\x<w7.heap.size/\w7.cell? ⟨x,off+1,none⟩=some (.string ⟨#[49]⟩):=by
     rcases(HO6.out.below hb7).arr PrC.enc_len with h|⟨x,off,hA,hx,hc⟩
     · cases h
     · exact⟨x,off,hA,hx,hc 0 (by decide) 1 _ rfl⟩
    clear hb7 R7 HP;go_wp2_with fail;go_ret;exact⟨rfl,HB7.out⟩
end
section
open Go.RowKit Go.Deep Go.ChangeShapes Go.WideShapes
theorem qx9{α:Type}[Inhabited α]{enc:α->List Value}{k:Nat}{H:Type}{en:TypeId×Value->H}{P:Program}{w:World}{sp:Nat->Bool}{held:Bool}{fuel:Nat}{t e:TypeId}{v:Value}{x:DataW H×List MemPlace}
 (ht:P.underlying t=some (.slice e)) (hk:P.cellsOf e=k) (hk0:0<k) (henc:∀a,(enc a).length=k) (Q:α->Prop) (hel:∀n cs y,DataW.trod en P w 0 sp held n e cs=some y->∃a:α,cs=enc a/\Q a)
 (h:DataW.trod en P w 0 sp held fuel t [v]=some x):
 ∃(A:Option Addr) (l:List α) (c:Nat),v=.slice A l.length c/\Arr enc k w w.heap.size A l/\l.length<=c/\c<=9223372036854775807/\∀a∈l,Q a:=by
 rcases open_slice ht h with⟨h0,_⟩|⟨a,len,cap,m,n,D,Pl,h0,_,hl,hm,hmm,_,hx⟩
 · cases h0
   exact⟨none,[],0,rfl,Arr.nil,Nat.le_refl _,by omega,by simp⟩
 · cases h0
   have hlm:len<=m:=by rw[hmm];split <;> omega
   obtain⟨f,hf⟩:=choose_lt (α:=α) (n:=len) (p:=λi b=>w.cells? 0 (a.add (i*P.cellsOf e)) (P.cellsOf e)=some (enc b)/\Q b) (λi hi=>by
    obtain⟨cs',h1,h2⟩:=hx i (by omega)
    obtain⟨b,rfl,hq⟩:=hel _ _ _ h2
    exact⟨b,h1,hq⟩)
   have hcap:cap<=9223372036854775807:=by unfold maxLen at hm;omega
   refine⟨some a,(List.range len).map f,cap,by simp,?_,by simpa using hl,hcap,?_⟩
   · rcases Nat.eq_zero_or_pos len with h0|h0
     · exact .inl (by simp[h0])
     · have hc:∀i,i<len->∀j (u:Value),(enc (f i))[j]? =some u->w.cell? ((a.add (i*k)).add j)=some u:=λi hi j u hu=>by
        obtain⟨_,_,h3⟩:=World.cells?_some (hf i hi).1;rw[hk]at h3;have hj:=(List.getElem?_eq_some_iff.1 hu).1;rw[henc]at hj;rw[h3 j hj];exact hu
       have h00:=hc 0 h0 0 _ (List.getElem?_eq_getElem (by rw[henc];exact hk0));obtain⟨b,off,spot⟩:=a;have hspot:spot=none:=by simpa[Addr.add]using World.cell?_spot h00
       subst hspot;have hb:=block_lt_of_cell h00;simp[Addr.add]at hb;refine .inr ⟨b,off,rfl,hb,λi hi j u hu=>?_⟩;simp at hi;have:=hc i hi j u (by simpa using hu);rw[Addr.add_lit,Addr.add_lit]at this;exact this
   · intro b hb
     simp only[List.mem_map,List.mem_range]at hb;obtain⟨i,hi,rfl⟩:=hb;exact(hf i hi).2
section
variable {H:Type}{en:TypeId×Value->H}{w:World}{sp:Nat->Bool}{held:Bool}
theorem qAo{α:Type}{l:List α}(h:l.length=5):∃a b c d e,l=[a,b,c,d,e]:=by
 match l,h with
 | [a,b,c,d,e],_=>exact⟨a,b,c,d,e,rfl⟩
instance:Inhabited qem:=⟨⟨0,0,0,0,none,0,0⟩⟩
theorem qrh{n:Nat}{cs:List Value}{y:DataW H×List MemPlace}(h:DataW.trod en prog w 0 sp held n 36 cs=some y):∃c:qem,cs=c.enc/\True:=by
 obtain⟨xs,m,_,rfl,hl,hlen,hf⟩:=DataW.trod_struct underlying36 h;obtain⟨c0,c1,c2,c3,c4,rfl⟩:=qAo (hl.trans (by kernel_rfl));obtain⟨y0,y1,y2,y3,y4,rfl⟩:=qAo hlen;have ki:prog.cellsOf 3=1:=by kernel_rfl
 have ks:prog.cellsOf 23=1:=by kernel_rfl
 have f0:DataW.trod en prog w 0 sp held m 3 [c0]=some y0:=by simpa[ki]using hf 0 _ rfl
 have f1:DataW.trod en prog w 0 sp held m 3 [c1]=some y1:=by simpa[ki]using hf 1 _ rfl
 have f2:DataW.trod en prog w 0 sp held m 3 [c2]=some y2:=by simpa[ki]using hf 2 _ rfl
 have f3:DataW.trod en prog w 0 sp held m 3 [c3]=some y3:=by simpa[ki]using hf 3 _ rfl
 have f4:DataW.trod en prog w 0 sp held m 23 [c4]=some y4:=by simpa[ki,ks]using hf 4 _ rfl
 obtain⟨n0,e0,_,_⟩:=DataW.trod_int underlying3 f0;obtain⟨n1,e1,_,_⟩:=DataW.trod_int underlying3 f1;obtain⟨n2,e2,_,_⟩:=DataW.trod_int underlying3 f2;obtain⟨n3,e3,_,_⟩:=DataW.trod_int underlying3 f3;cases e0;cases e1;cases e2;cases e3
 rcases open_slice underlying23 f4 with⟨h0,_⟩|⟨a,len,cap,_,_,_,_,h0,_⟩
 · cases h0
   exact⟨⟨n0,n1,n2,n3,none,0,0⟩,rfl,trivial⟩
 · cases h0
   exact⟨⟨n0,n1,n2,n3,some a,len,cap⟩,rfl,trivial⟩
theorem qq5{r:Reach}{b0:Nat}{v:Value}{d:DataW H}{p:List MemPlace}(hv:Value.okWide prog w r b0 22 v)(h:DataW.Trod en prog w 0 sp held 22 v d p):
 ∃(l:List qem) (A:Option Addr) (c:Nat),v=.slice A l.length c/\Arr qem.enc 5 w w.heap.size A l/\l.length<=c/\c<=9223372036854775807:=by
 obtain⟨a,len,cap,rfl⟩:=okWide_slice underlying22 hv;obtain⟨fuel,hf⟩:=h;have hf':DataW.trod en prog w 0 sp held fuel 22 [.slice a len cap]=some (d,p):=by simpa[Value.cells]using hf
 obtain⟨A,l,c,h1,h2,h3,h4,_⟩:=qx9 underlying22 (k:=5) (by kernel_rfl) (by omega) qem.enc_len (λ_=>True) (λn cs y hy=>qrh hy) hf';exact⟨l,A,c,h1,h2,h3,h4⟩
end
end
end Go.Proofs.YtecikkjbnkhhkaaGreat
