/- A part of the walk. -/
import Derived.Test.YtecikkjbnkhhkaaGreatP44
import Derived.Test.YtecikkjbnkhhkaaGreatP49
namespace Go.Proofs.YtecikkjbnkhhkaaGreat
open _root_.Go.Proofs.Tryz
set_option maxHeartbeats 4000000
set_option maxRecDepth 100000
section
open Go.RowKit
def qmg(F:qa5->FrD->Prop)(T:List ThrC)(D:Nat->FrD)(k:Nat):Prop:=∀i (h:i<T.length),T[i].busy=false\/(T[i].busy=true/\F T[i].f (D i)/\∃si:Nat,T[i].st=(si:Int)/\si<k)
structure QOK(M:qa4)(T:List ThrC)(D:Nat->FrD)(S:List qap)(s th:Nat):Prop where
 ok:OkA M (3*s) th
 now:M.now=1/\M.dur=0
 thr:qmg (FrOK M.D.length) T D S.length
 sl:S.length<=s
def WIn(wb a:Nat)(P:qag)(c:CfgC)(s:Nat)(g:Own8)(w:World)(r:Option Nat):Prop:=
 ∃M T D steps sA sc S,WAt g w wb a P M c T D steps sA sc S/\r=qa8 sA sc/\QOK M T D S s c.th/\0<=steps/\steps<=(s:Int)
theorem qmg.set{F:qa5->FrD->Prop}{T:List ThrC}{D:Nat->FrD}{k k' t:Nat}(h:qmg F T D k)(hk:k<=k')(x:ThrC)(d:FrD)(hx:x.busy=false\/(x.busy=true/\F x.f d/\∃si:Nat,x.st=(si:Int)/\si<k')):qmg F (T.set t x) (updD D t d) k':=by
 intro i hi;rw[List.getElem_set];unfold updD;by_cases e:t=i
 · rw[if_pos e,if_pos e.symm];exact hx
 · rw[if_neg e,if_neg (λh=>e h.symm)]
   rcases h i (by rw[List.length_set]at hi;exact hi)with h0|⟨h1,h2,si,h3,h4⟩
   · exact .inl h0
   · exact .inr ⟨h1,h2,si,h3,by omega⟩
theorem qmg.more{F:qa5->FrD->Prop}{T:List ThrC}{D:Nat->FrD}{k k':Nat}(h:qmg F T D k)(hk:k<=k'):qmg F T D k':=λi hi=>by
 rcases h i hi with h0|⟨h1,h2,si,h3,h4⟩
 · exact .inl h0
 · exact .inr ⟨h1,h2,si,h3,by omega⟩
theorem QOK.more{M:qa4}{T:List ThrC}{D:Nat->FrD}{S:List qap}{s th:Nat}(h:QOK M T D S s th):QOK M T D S (s+1) th:=⟨h.ok.mono (by omega),h.now,h.thr,by have:=h.sl;omega⟩
theorem FrOK.begin{L:Nat}{cl:qa7}{G gs:List qa7}{w:World}{lo c2:Nat}{A2:Option Addr}(h:qd2 w lo cl G)(h8:¬cl.kind=8)(hs:Sims gs G):FrOK L (qgk cl A2 cl.gn c2) ⟨gs,[],[],[]⟩:=by
 have hl:=hs.1;have hg:=h.gr.1;refine⟨⟨by show(0:Int)<=0;decide,by show(0:Int)<7;decide⟩,?_,h.sm,⟨by show gs.length<=3;omega,?_,h.gr.2.2.sims hs⟩,?_,?_,?_,?_,?_,?_,Nat.zero_le _,Nat.zero_le _,Nat.zero_le _⟩
 · show cl.kind=1\/cl.kind=2\/cl.kind=3\/cl.kind=4\/cl.kind=5\/cl.kind=7
   have:=h.kd;omega
 · intro x hx
   obtain⟨i,hi,rfl⟩:=List.getElem_of_mem hx;have hi2:i<G.length:=by rw[<-hl];exact hi
   have h2:=(hs.2 i hi hi2).1;have h3:=h.gr.2.1 G[i] (List.getElem_mem hi2);exact⟨by rw[h2.key];exact h3.1,by rw[h2.val];exact h3.2⟩
 · intro hk
   have:=h.g1 hk;show 1<=gs.length
   omega
 · exact λ_=>⟨λ(e:(0:Int)=1)=>(by cases e),λ(e:(0:Int)=2)=>(by cases e)⟩
 · exact λ_=>⟨λ(e:(0:Int)=2)=>(by cases e),λ(e:(0:Int)=1\/(0:Int)=3\/(0:Int)=4)=>(by omega),λ(e:(0:Int)=5)=>(by cases e)⟩
 · exact λ(e:(0:Int)=4)=>by cases e
 · exact λ(e:(0:Int)=4)=>by cases e
 · exact λ(e:(0:Int)=2)=>by cases e
section
variable {g:Own8}{w:World}{wb a:Nat}{P:qag}{c:CfgC}{s:Nat}{r:Option Nat}
end
end
section
open Go.RowKit
def PtR(M:qa4)(t:Nat)(f:qa5)(d:FrD)(M':qa4)(f':qa5)(d':FrD):Prop:=
 (f.phase=0->∃ht:t<M.H.length,qmk M t f d M.H[t] (λf=> {f with phase:=1}) M' f' d') /\
 (f.phase=1->FdR M f d M' f' d')/\(f.phase=3->TkR M f d M' f' d') /\
 (f.phase=4->∃n p:Nat,f.line=(n:Int)/\f.piece=(p:Int)/\WrR M f d n p M' f' d') /\
 (f.phase=5->qu9 M f d M' f' d')/\(f.phase=6->qua M t f d M' f' d')
def qA2(M:qa4)(n th t:Nat)(f:qa5)(d:FrD)(M':qa4)(f':qa5)(d':FrD):Prop:=OkR M n th f d M' f' d'/\PtR M t f d M' f' d'
section
variable {g:Own8}{w:World}{lo a b t n th:Nat}{P:qag}{M:qa4}{ty:TypeId}{f:qa5}{d:FrD}
theorem ql9(hok:OkA M n th)(hn:n<=40000)(ht:t<th)(h:FrOK M.D.length f d)(hk:f.call.kind=1\/f.call.kind=2\/f.call.kind=3)(k:Nat)(hk7:k<7)(hph:f.phase=(k:Int))(hw:WSt g w lo a P M b t ty f d)(hlo:lo<=w.heap.size):
 Calls prog (ptN k) #[.pointer (some ⟨b,0,none⟩)] w (qal lo a P b t ty (qA2 M n th t f d) g w):=by
 have hth:t<M.H.length:=by rw[hok.th.1];exact ht
 have h4:¬f.call.kind=4:=by omega
 have h7:¬f.call.kind=7:=by omega
 have hc1:=h.call.1;have hc2:=h.call.2;rcases k with _|_|_|_|_|_|_|k
 · exact(qhh hw hth).mono λ_ _=>qal.mono λ_ _ _ hr=>⟨qiv hok h ⟨h4,h7⟩ hr,λ_=>⟨hth,hr⟩,λe=>by omega,λe=>by omega,λe=>by omega,λe=>by omega,λe=>by omega⟩
 · exact(qiu hw (by omega) (qnh hok _ hn)).mono λ_ _=>qal.mono λ_ _ _ hr=>⟨qlb hok h hk hr,λe=>by omega,λ_=>hr,λe=>by omega,λe=>by omega,λe=>by omega,λe=>by omega⟩
 · obtain⟨⟨ol,pc,e1,e2,e3,e4,e5⟩,hbs⟩:=h.rd hph
   exact(qit hw ol pc e1 e2 (by omega) (by have:=h.bs;omega) hlo).mono λ_ _=>qal.mono λ_ _ _ hr=>⟨ql7 hok h hph h4 h7 e2 (qab.hn _) hr,λe=>by omega,λe=>by omega,λe=>by omega,λe=>by omega,λe=>by omega,λe=>by omega⟩
 · exact(qir hw (by omega) (by omega)).mono λ_ _=>qal.mono λ_ _ _ hr=>⟨ql6 hok h h7 hr,λe=>by omega,λe=>by omega,λ_=>hr,λe=>by omega,λe=>by omega,λe=>by omega⟩
 · obtain⟨nn,p,e1,e2,e3,e4,e5⟩:=h.wr hph h7
   exact(qhf hw hc1 hc2 nn p e1 e2 e3 e4 e5).mono λ_ _=>qal.mono λ_ _ _ hr=>⟨qyj hok h hph h7 e2 e4 hr,λe=>by omega,λe=>by omega,λe=>by omega,λ_=>⟨nn,p,e1,e2,hr⟩,λe=>by omega,λe=>by omega⟩
 · exact(qf2 hw hok hn ht (by omega) (by omega)).mono λ_ _=>qal.mono λ_ _ _ hr=>⟨qon hok hn ht h h4 h7 hr,λe=>by omega,λe=>by omega,λe=>by omega,λe=>by omega,λ_=>hr,λe=>by omega⟩
 · exact(qhg hw hth).mono λ_ _ hv=>qal.mono (λ_ _ _ hr=>⟨qgs hok h hr,λe=>by omega,λe=>by omega,λe=>by omega,λe=>by omega,λe=>by omega,λ_=>hr⟩) (VTo.leave hv)
 · omega
theorem qn9(h:qa6 g w a P M)(hok:OkA M n th)(hn:n<=40000)(ht:t<th)(hf:qbt w w.heap.size f d.gr d.bs d.ps d.hs)(hfr:FrOK M.D.length f d)(hk:f.call.kind=1\/f.call.kind=2\/f.call.kind=3):
 Calls prog 109 #[.pointer (some ⟨a,0,none⟩),.int .i64 (t:Int),f.v] w (qcy a P (qA2 M n th t) f d g w):=by
 have hp:=hfr.ph;refine qis h f d hf hfr.fit (by omega) (by omega) f.phase.toNat (by omega) (by omega) (λg1 W b lo f1 d1 hs hw hlo=>?_) (λf1 d1 M' f' d' hr=>hr.1.call);exact ql9 hok hn ht (hfr.same hs) (by rw[hs.phase.2];exact hk) _ (by omega) (by rw[hs.phase.1];omega) hw hlo
end
structure PutA(f:qa5)(d:FrD):Prop where
 kind:f.call.kind=2
 key:f.call.key=⟨#[97]⟩
 val:f.call.val=⟨#[49]⟩
 gr:d.gr=[]
structure Em(M:qa4):Prop where
 t:M.T=λ_=>[]
 q:M.Q=[]
 bag:M.bag=[]
 now:M.now=1
 id:M.id=0
 ver:M.ver=0
 d:M.D.length=18
def lkA:qa3:=⟨⟨#[97]⟩,1,1,2,0⟩
def blkA:BlkC:=⟨0,1,1,1,1,⟨#[97]⟩,⟨#[49]⟩⟩
def chA:ChgC:=⟨2,⟨#[97]⟩,⟨#[49]⟩,false,qak,2,0⟩
def Don(M:qa4):Prop:=M.T=updB (λ_=>[]) (bucket ⟨#[97]⟩) [lkA]/\M.Q=[]/\∃h:2<M.D.length,M.D[2].now=encB blkA
noncomputable def qok:List qan:=[(qd3 (-1)).put 0 0,qd3 (-1)]
def StA(k:Nat)(M:qa4)(f:qa5)(d:FrD):Prop:=PutA f d/\(match k with
 |0=>Em M/\M.S=List.replicate 2 (qd3 (-1))/\M.H=[0]/\f.phase=0/\f.line= -1/\f.pos=ByteArray.empty/\f.past=false
 |1=>Em M/\M.S=List.replicate 2 (qd3 (-1))/\f.phase=1/\f.line= -1/\f.pos=ByteArray.empty/\f.past=false/\f.ep=1
 |2=>Em M/\M.S=List.replicate 2 (qd3 (-1))/\f.phase=3/\f.ep=1/\f.had=false/\f.old=qak
 |3=>Em M/\M.S=qok/\f.phase=4/\f.ep=1/\f.had=false/\f.old=qak/\f.line=2/\f.cls=0/\f.piece=0
 |4=>Em M/\M.S=qok/\f.phase=5/\f.ep=1/\f.had=false/\f.old=qak/\f.line=2/\f.cls=0
 |5=>Don M/\f.phase=6
 |_=>Don M/\f.phase=7)
theorem qAy{c:qa7}(h1:c.kind=2)(h2:c.key=⟨#[97]⟩)(h3:c.val=⟨#[49]⟩)(g:List qa7):qe9 c g=0:=by
 have hs:qbl c g=true:=by
  unfold qbl;rw[h1,h2,if_neg (by decide),if_neg (by decide +kernel),if_pos (by decide)]
 have hl:qie c g=false:=by
  unfold qie qc2;rw[h1,if_neg (by decide),if_neg (by decide),if_pos rfl,h2,h3];rfl
 unfold qe9;rw[hs,if_neg (by decide),hl,if_neg (by decide)]
theorem qol{gs:List qa7}(h:Sims gs []):gs=[]:=List.eq_nil_of_length_eq_zero h.1
theorem StA.same{k:Nat}{M:qa4}{f f1:qa5}{d d1:FrD}(h:StA k M f d)(hs:qdm f d f1 d1):StA k M f1 d1:=by
 obtain⟨y,bA,bc,pA,pc,hA,hc,he,hy⟩:=hs.eq;obtain⟨hp,hm⟩:=h;have hg:=hs.gr;rw[hp.gr]at hg;subst he;refine⟨⟨hy.kind.trans hp.kind,hy.key.trans hp.key,hy.val.trans hp.val,qol hg⟩,?_⟩;rcases k with _|_|_|_|_|_|k <;> exact hm
section
variable {M M':qa4}{f f':qa5}{d d':FrD}
theorem qru(h:StA 0 M f d)(hr:PtR M 0 f d M' f' d'):StA 1 M' f' d':=by
 obtain⟨hp,hm,hS,hH,hph,hl,hpos,hpast⟩:=h;obtain⟨ht,rfl,(⟨hg,_⟩|⟨_,h0,_⟩|⟨_,_,rfl,rfl⟩)⟩:=hr.1 hph
 · exact absurd (qAy hp.kind hp.key hp.val _) hg
 · refine absurd ?_ h0
   simp only[hH];rfl
 · exact⟨⟨hp.kind,hp.key,hp.val,hp.gr⟩,⟨hm.t,hm.q,hm.bag,hm.now,hm.id,hm.ver,hm.d⟩,hS,rfl,hl,hpos,hpast,hm.now⟩
theorem qvi(h:StA 1 M f d)(hr:PtR M 0 f d M' f' d'):StA 2 M' f' d':=by
 obtain⟨hp,hm,hS,hph,hl,hpos,hpast,hep⟩:=h;obtain⟨r,hn,hc⟩:=hr.2.1 hph;have hrn:r=none:=by
  cases r with
  |none=>rfl
  |some x=>have:=hn.1;rw[hm.t]at this;cases this
 subst hrn;rcases hc with⟨y,e,_⟩|⟨_,hg⟩
 · cases e
 have hk:(hitF f none).call.kind=2:=hp.kind;have hll:(hitF f none).line= -1:=hl;rcases hg with⟨e,_⟩|⟨e,_⟩|⟨e,_⟩|⟨e,_⟩|⟨_,_,_,rfl,rfl,rfl⟩|⟨_,_,e,_⟩
 · omega
 · omega
 · omega
 · omega
 · exact⟨⟨hp.kind,hp.key,hp.val,hp.gr⟩,hm,hS,rfl,hep,rfl,rfl⟩
 · omega
theorem qvg(h:StA 2 M f d)(hr:PtR M 0 f d M' f' d'):StA 3 M' f' d':=by
 obtain⟨hp,hm,hS,hph,hep,hhad,hold⟩:=h;obtain⟨rfl,ln,code,ht,hc⟩:=hr.2.2.1 hph;have hn:qbh (qcz f.call)=0:=by
  unfold qcz;rw[hp.kind,hp.key,hp.val];rfl
 rw[hn]at ht hc;have hSl:M.S.length=2:=by rw[hS];rfl
 have hcl:∀j (hj:j<M.S.length),M.S[j].cls= -1:=λj hj=>by simp only[hS,List.getElem_replicate];rfl
 rcases ht with⟨h0,_⟩|⟨_,_,_,_,h0⟩|⟨i,k,hi,_,hf,rfl,rfl,rfl⟩
 · cases h0
 · exact absurd (hcl 0 (by omega)) (h0 0 (by omega))
 · obtain⟨hi',hk8,hcs⟩:=hf.1 rfl
   rcases hcs with⟨h0,_⟩|⟨_,rfl,hj⟩
   · rw[hcl]at h0;cases h0
   · have hi0:i=0:=by
      rcases Nat.eq_zero_or_pos i with h|h
      · exact h
      · exact absurd (hcl 0 (by omega)) (hj 0 (by omega) h)
     subst hi0;rcases hc with⟨h0,_⟩|⟨_,rfl⟩
     · exact absurd rfl h0
     · refine⟨⟨hp.kind,hp.key,hp.val,hp.gr⟩,⟨hm.t,hm.q,hm.bag,hm.now,hm.id,hm.ver,hm.d⟩,?_,rfl,hep,hhad,hold,rfl,rfl,rfl⟩
       show M.S.set 0 (M.S[0].put 0 0)=qok
       simp only[hS];rfl
theorem qrs(h:StA 3 M f d)(hr:PtR M 0 f d M' f' d'):StA 4 M' f' d':=by
 obtain⟨hp,hm,hS,hph,hep,hhad,hold,hl,hc,hpc⟩:=h;obtain⟨n,p,e1,e2,rfl,rfl,h3⟩:=hr.2.2.2.1 hph;have hp0:p=0:=by omega
 subst hp0;rw[hc]at h3;rcases h3 with⟨_,rfl⟩|⟨h0,_⟩
 · exact⟨⟨hp.kind,hp.key,hp.val,hp.gr⟩,⟨hm.t,hm.q,hm.bag,hm.now,hm.id,hm.ver,(qh0 _ _ _ _ _).trans hm.d⟩,hS,rfl,hep,hhad,hold,hl,rfl⟩
 · exact absurd rfl h0
theorem qoo{l:List ChgC}{x:ChgC}(hl:l=[x]){i:Nat}(h:i<l.length):l[i]=x:=by
 subst hl;have:i=0:=by simp at h;exact h
 subst this;rfl
theorem pubA(hm:Em M)(hS:M.S=qok){code:Int}{M1:qa4}(hr:PubR M 1 [chA] code M1):code=0/\Don M1:=by
 have hcat:catB M.T 8=[]:=by rw[hm.t];rfl
 rcases hr with⟨hne,rfl,hcs⟩|⟨rfl,_,_,_,_,_,gr,hch⟩
 · exfalso
   rcases hcs with⟨_,h1|⟨i,hi,h2,h3⟩⟩|⟨_,h1|⟨i,hi,h2⟩⟩|⟨i,hi,h2⟩
   · refine h1 ⟨Nat.le_refl _,by decide,λi hi=>⟨by rw[qoo rfl hi];rfl,λj hj=>?_⟩⟩
     have:i=0:=by simp at hi;exact hi
     omega
   · have hx:=qoo (x:=chA) rfl hi
     rw[hx]at h2 h3;rcases h3 with⟨c,ok,hof,h4⟩|h4|⟨j,hj,_⟩
     · rcases h4 with rfl|h4
       · have hz:=hof.2 rfl
         rw[hS]at hz;have:=hz 0 0 (by decide) (by decide) (by decide) rfl rfl;exact absurd this (by decide)
       · cases ok with
         |false =>
          have hz:=hof.2 rfl;rw[hS]at hz;have:=hz 0 0 (by decide) (by decide) (by decide) rfl rfl;exact absurd this (by decide)
         |true =>
          obtain⟨i',k,hi',hc,_,hs,_⟩:=hof.1 rfl;simp only[hS]at hi' hc hs;rcases i' with _|_|i'
          · exact h4 hc
          · exact absurd hs (Nat.not_lt_zero _)
          · exact absurd hi' (by show ¬i'+1+1<2;omega)
     · unfold qkv at h4
       rw[hcat,hm.q,hm.bag]at h4;cases h4
     · have:i=0:=by simp at hi;exact hi
       omega
   · exact h1 hm.now
   · rw[qoo (x:=chA) rfl hi]at h2
     unfold qby gotT at h2;rw[hm.t]at h2;cases h2
   · rw[qoo (x:=chA) rfl hi]at h2
     exact h2 λ_=>⟨by decide,by decide⟩
 · refine⟨rfl,?_⟩
   obtain⟨l,hl⟩:∃l,l=[chA]:=⟨_,rfl⟩;rw[<-hl]at hch;cases hch with
   |nil=>cases hl
   |skip h1 h2 =>
    rename_i xs x;obtain⟨rfl,rfl⟩:xs=[]/\x=chA:=by
     rcases xs with _|⟨y,ys⟩
     · exact⟨rfl,by simpa using hl⟩
     · simp at hl
    cases h2
   |step h1 h2 h3 h4 =>
    rename_i xs M2 gr2 n x owed' eA ec;obtain⟨rfl,rfl⟩:xs=[]/\x=chA:=by
     rcases xs with _|⟨y,ys⟩
     · exact⟨rfl,by simpa using hl⟩
     · simp at hl
    obtain⟨ys,hys⟩:∃ys:List ChgC,ys=[]:=⟨_,rfl⟩;rw[<-hys]at h1;cases h1 with
    |skip=>simp at hys
    |step=>simp at hys
    |nil =>
     have hn:n=2:=by have:(2:Int)=(n:Int):=h3;omega
     subst hn;have hlk:qcj M chA 1=lkA:=by
      unfold qcj qda chId;rw[hm.id,hm.ver];rfl
     have hbk:qda M chA 1=blkA:=by
      unfold qda chId;rw[hm.id,hm.ver];rfl
     have h2l:2<M.D.length:=by rw[hm.d];decide
     refine⟨?_,?_,?_⟩
     · show chT M chA 1=_
       unfold chT;rw[hlk,if_pos (show chA.kind=2 from rfl),hm.t];rfl
     · show chQ M chA 1=[]
       unfold chQ;rw[if_neg (by decide),if_neg (by decide)];exact hm.q
     · have hD:chD M chA 1 2=M.D.set 2 (M.D[2].over 0 ((encB blkA).take 64)):=by
        unfold chD;rw[dif_pos h2l,hbk]
       refine⟨by show 2<(chD M chA 1 2).length;rw[hD,List.length_set];exact h2l,?_⟩;show((chD M chA 1 2)[2]'_).now=_
       simp only[hD,List.getElem_set_self];have h64:(encB blkA).length=64:=by decide +kernel
       have htk:(encB blkA).take 64=encB blkA:=List.take_of_length_le (by rw[h64];exact Nat.le_refl _);rw[htk];unfold qab.over;rw[dif_pos (by rw[h64];decide)];exact qle (by rw[h64,M.D[2].hn])
theorem qym(h:StA 4 M f d)(hr:PtR M 0 f d M' f' d'):StA 5 M' f' d':=by
 obtain⟨hp,hm,hS,hph,hep,hhad,hold,hl,hc⟩:=h;obtain⟨rfl,code,M1,hpub,h3⟩:=hr.2.2.2.2.1 hph;have hch:chF f=chA:=by
  unfold chF;rw[hp.kind,hp.key,hp.val,hhad,hold,hl,hc];rfl
 rw[hch,hep]at hpub;obtain⟨rfl,hd⟩:=pubA hm hS hpub;rcases h3 with⟨_,rfl,rfl⟩|⟨e,_⟩|⟨e,_⟩
 · exact⟨⟨hp.kind,hp.key,hp.val,hp.gr⟩,hd,rfl⟩
 · cases e
 · exact absurd rfl e
theorem qrt(h:StA 5 M f d)(hr:PtR M 0 f d M' f' d'):StA 6 M' f' d':=by
 obtain⟨hp,hd,hph⟩:=h;obtain⟨rfl,rfl,rfl⟩:=hr.2.2.2.2.2 hph;exact⟨⟨hp.kind,hp.key,hp.val,hp.gr⟩,hd,rfl⟩
theorem qvh{k:Nat}(hk:k<6)(h:StA k M f d)(hr:PtR M 0 f d M' f' d'):StA (k+1) M' f' d':=by
 rcases k with _|_|_|_|_|_|k
 · exact qru h hr
 · exact qvi h hr
 · exact qvg h hr
 · exact qrs h hr
 · exact qym h hr
 · exact qrt h hr
 · omega
end
end
section
open Go.RowKit
def qA0(l:List UInt8)(w:World)(e:Ending)(w':World):Prop:=∃A c,e=.returned (.slice A l.length c)/\Own byE 5 1 w' w.heap.size A c l/\Below w.heap.size w w'
section
variable {g:Own8}{w:World}{a:Nat}{P:qag}{M:qa4}
theorem qra(h:qa6 g w a P M)(n:Nat)(hn:n<M.D.length):Calls prog 98 #[.pointer (some ⟨a,0,none⟩),.int .i64 (n:Int),.int .i64 0] w (qA0 M.D[n].now w):=by
 have hlen:M.D.length<=258:=h.dev.2.1.len.2;have hw1:IntKind.i64.wrap ((n:Int)+0)=(n:Int):=Go.IntWalk.i64_in _ (by omega);have TL:=hid (λW (hW:Below w.heap.size w W)=>qow W 0 P.dp P.dc M.D (h.below hW).dev.2.1 n hn);have TD:=hid (λW (hW:Below w.heap.size w W)=>qek (h.below hW));have TS:=hid (λW=>qaw 0 W);have e1:qa9 0=1:=rfl;simp only[e1]at TS;have hln:=M.D[n].hn;generalize M.D[n].now=now at *;have HLN:=hid hln;have hn258:(n:Int)<=1000:=by omega
 clear h hlen hn hln e1;go_enter func98,ntmps98;go_wp2_with fail;refine(TS.out w).mono ?_;rintro e w1⟨rfl,he⟩;rw[he];clear he TS;go_wp2_with fail;go_loopw [7,13] (λv7 v13 wr=>∃A c l,v7=.slice A l.length c/\Own byE 5 1 wr w.heap.size A c l/\Below w.heap.size w wr/\((v13=.int .i64 0/\l=[])\/(v13=.int .i64 1/\l=now))) (λ_ v13 _=>1-(intOf v13).toNat)
 case atStart=>exact⟨none,0,[],rfl,Own.zero,Below.refl _ _,.inl ⟨rfl,rfl⟩⟩
 case round =>
  obtain⟨A,c,l,rfl,hown,hb,(⟨rfl,rfl⟩|⟨rfl,rfl⟩)⟩:=hrel
  · have HO:=hid hown
    have HB:=hid hb;clear hown hb;have hw1:IntKind.i64.wrap ((n:Int)+0)=(n:Int):=hw1;go_wp2_with fail;refine(TD.out wr HB.out).mono ?_;rintro e w2⟨rfl,he⟩;rw[he];clear he;go_wp2_with fail;refine(TL.out wr HB.out).mono ?_;rintro e w3⟨A2,c2,rfl,hown2,hb2⟩;have HO2:=hid hown2;have HO3:=hid (HO.out.below hb2);have HB3:=hid (HB.out.trans (hb2.mono HB.out.size));clear hown2 hb2;go_wp2_with(at_builtin;refine qdw (l:=[]) (m:=now) (A:=A) (c:=c) (lo:=w.heap.size) _ rfl (.tmp 25) (.tmp 26) rfl (by simp[Act.eval]) HO3.out (A2:=A2) c2 (by rw[HLN.out];simp[Act.eval]) (HO2.out.arr qbn) (by rw[HLN.out];simp) HB3.out.size ?_;intro A4 c4 w4 hown4 hgr4 hloc4);refine⟨⟨A4,c4,now,?_,hown4,qde HO3.out hgr4 HB3.out HB3.out.size,.inr ⟨rfl,rfl⟩⟩,by decide⟩;simp
  · have HO:=hid hown
    have HB:=hid hb;clear hown hb;go_wp2_with fail;go_ret;exact⟨A,c,rfl,HO.out,HB.out⟩
end
end
section
open Go.RowKit
theorem qBm:decB (encB blkA)=some blkA:=by decide +kernel
section
variable {g:Own8}{w:World}{a:Nat}{P:qag}{M:qa4}
def qye(w:World)(e:Ending)(w':World):Prop:=e=.returned (.tuple #[.string ⟨#[49]⟩,.bool true])/\Below w.heap.size w w'
theorem qxf(h:qa6 g w a P M)(h2:2<M.D.length)(hnow:M.D[2].now=encB blkA):Calls prog 61 #[.pointer (some ⟨a,0,none⟩),.agg #[.string ⟨#[97]⟩,.int .u64 1,.int .u64 1,.int .i64 2,.int .i64 0],.int .i64 1] w (qye w):=by
 have TB:=hid (λW (hW:Below w.heap.size w W)=>qra (h.below hW) 2 h2);simp only[hnow]at TB;have h64:(encB blkA).length=64:=by decide +kernel
 have hdec:=hid qBm;have hk:decV (some blkA)=.tuple #[.agg #[.int .i64 0,.int .i64 1,.int .u64 1,.int .u64 1,.int .u64 1,.string ⟨#[97]⟩,.string ⟨#[49]⟩],.bool true]:=rfl;generalize encB blkA=l at *;generalize blkA=bb at *;have HK:=hid hk;have H64:=hid h64;clear h h2 hnow hk h64;go_enter func61,ntmps61;go_upto_region 1 with fail;generalize hw1:World.alloc _ _=w1;have R0:w1.heap[w.heap.size]? =some (.cells #[.string ⟨#[97]⟩,.int .u64 1,.int .u64 1,.int .i64 2,.int .i64 0] 85 (0,0)):=by rw[<-hw1];exact qaq _ _
 have b1:Below w.heap.size w w1:=by rw[<-hw1];exact(Below.refl _ _).alloc (Nat.le_refl _) _
 have c0:w1.cell? ⟨w.heap.size,0,none⟩=some (.string ⟨#[97]⟩):=cell_of_row w1 _ 0 _ _ _ R0;have c1:w1.cell? ⟨w.heap.size,1,none⟩=some (.int .u64 1):=cell_of_row w1 _ 1 _ _ _ R0;have c2:w1.cell? ⟨w.heap.size,2,none⟩=some (.int .u64 1):=cell_of_row w1 _ 2 _ _ _ R0;have c3:w1.cell? ⟨w.heap.size,3,none⟩=some (.int .i64 2):=cell_of_row w1 _ 3 _ _ _ R0;have c4:w1.cell? ⟨w.heap.size,4,none⟩=some (.int .i64 0):=cell_of_row w1 _ 4 _ _ _ R0;have hl:=qa0 R0;have HB1:=hid b1;clear hw1 b1 R0;go_wp2_with fail;refine(TB.out w1 HB1.out).mono ?_;rintro e w2⟨A2,c2',rfl,hown2,hb2⟩;have HO2:=hid hown2;have HB2:=hid hb2;have c0:=(hb2.cell (p:=⟨w.heap.size,0,none⟩) hl).trans c0;have c1:=(hb2.cell (p:=⟨w.heap.size,1,none⟩) hl).trans c1;have c2:=(hb2.cell (p:=⟨w.heap.size,2,none⟩) hl).trans c2;clear hown2 hb2;go_wp2_with fail;have HD:=qi0 l A2 c2' w2 (HO2.out.arr qbn) (by rw[H64.out];decide) HO2.out.len HO2.out.max;rw[hdec.out]at HD;refine HD.mono ?_;rintro e w3⟨rfl,hb3⟩;rw[HK.out];have HB3:=hid hb3;have hl2:w.heap.size<w2.heap.size:=by have:=HB2.out.size;omega
 have c0:=(hb3.cell (p:=⟨w.heap.size,0,none⟩) hl2).trans c0;have c1:=(hb3.cell (p:=⟨w.heap.size,1,none⟩) hl2).trans c1;have c2:=(hb3.cell (p:=⟨w.heap.size,2,none⟩) hl2).trans c2;clear hb3 HK TB hdec;go_upto_region 2 with fail;have hl3:w.heap.size<w3.heap.size:=by have:=HB3.out.size;omega
 generalize hw4:World.alloc _ _=w4;have R4:w4.heap[w3.heap.size]? =some (.cells #[.int .i64 0,.int .i64 1,.int .u64 1,.int .u64 1,.int .u64 1,.string ⟨#[97]⟩,.string ⟨#[49]⟩] 203 (0,0)):=by rw[<-hw4];exact qaq _ _
 have b4:Below w3.heap.size w3 w4:=by rw[<-hw4];exact(Below.refl _ _).alloc (Nat.le_refl _) _
 have c0:=(b4.cell (p:=⟨w.heap.size,0,none⟩) hl3).trans c0;have c1:=(b4.cell (p:=⟨w.heap.size,1,none⟩) hl3).trans c1;have c2:=(b4.cell (p:=⟨w.heap.size,2,none⟩) hl3).trans c2;have k1:w4.cell? ⟨w3.heap.size,1,none⟩=some (.int .i64 1):=cell_of_row w4 _ 1 _ _ _ R4;have k2:w4.cell? ⟨w3.heap.size,2,none⟩=some (.int .u64 1):=cell_of_row w4 _ 2 _ _ _ R4;have k3:w4.cell? ⟨w3.heap.size,3,none⟩=some (.int .u64 1):=cell_of_row w4 _ 3 _ _ _ R4;have k5:w4.cell? ⟨w3.heap.size,5,none⟩=some (.string ⟨#[97]⟩):=cell_of_row w4 _ 5 _ _ _ R4;have k6:w4.cell? ⟨w3.heap.size,6,none⟩=some (.string ⟨#[49]⟩):=cell_of_row w4 _ 6 _ _ _ R4;have hl4:=qa0 R4;have HB4:=hid (HB1.out.trans ((HB2.out.trans ((HB3.out.trans (b4.mono HB3.out.size)).mono HB2.out.size)).mono HB1.out.size));clear hw4 b4 R4;have h4:((⟨#[97]⟩:ByteArray).toList==(⟨#[97]⟩:ByteArray).toList)=true:=beq_self_eq_true _;go_quiet (fail);go_wp2_with fail;go_ret2;exact⟨rfl,qa1 HB4.out _⟩
end
end
section
open Go.RowKit
structure PrC where
 key:ByteArray
 val:ByteArray
def PrC.enc(x:PrC):List Value:=[.string x.key,.string x.val]
theorem PrC.enc_len(x:PrC):x.enc.length=2:=rfl
theorem PrC.enc_one(x:PrC):∀u∈x.enc,u.oneCell'=true:=by
 intro u hu;simp only[PrC.enc,List.mem_cons,List.not_mem_nil,or_false]at hu;rcases hu with rfl|rfl <;> rfl
theorem qz9:(prog.info? 75).map (λi=>(i.zero,i.size,i.bytes))=some (some (.agg #[.string ByteArray.empty,.string ByteArray.empty]),2,32):=by kernel_rfl
theorem qB7{ops:Array Oper}{rest:List Oper}{o:Oper}{a:Act}{Q:Exit->Act->World->Prop}(w:World)(hgd:o.guard=none)(s x:Operand)
 (ho:o.op=.call {callee:=.builtin .append,args:=#[s,x],argTypes:=#[45,45]}) {lo:Nat} {A:Option Addr} {c:Nat} {l:List PrC} (hs:a.eval s=.slice A l.length c) (own:Own PrC.enc 75 2 w lo A c l)
 {B:Nat} {A2:Option Addr} {m:List PrC} (c2:Nat) (hx:a.eval x=.slice A2 m.length c2) (arr:Arr PrC.enc 2 w B A2 m) (hb:l.length+m.length<=1000000) (hlo:lo<=w.heap.size)
 (h:∀A' c' w',Own PrC.enc 75 2 w' lo A' c' (l++m)->w.grownBy w' (qa8 A c)->(A'=A/\c'=c\/∃g,A'=some ⟨g,0,none⟩/\w.heap.size<=g)->wpList prog ops Q rest (a.put o.dst (.slice A' (l.length+m.length) c')) w'):
 wpList prog ops Q (o::rest) a w:=by
 obtain⟨i0,hi,hz0,hz1,hz2⟩:=info_parts qz9;exact qar w hgd s x 45 ho i0 _ 32 underlying45 hi hz0 hz1 hz2 rfl (by decide) PrC.enc_len PrC.enc_one hs own c2 hx arr (by unfold maxLen;omega) (by omega) hlo h
theorem qty{w:World}{p:Nat}{x:PrC}{ty:TypeId}(h:w.heap[p]? =some (.cells x.enc.toArray ty (0,0))):Arr PrC.enc 2 w w.heap.size (some ⟨p,0,none⟩) [x]:=.inr ⟨p,0,rfl,qa0 h,λi hi j v hv=>by
 have:i=0:=by simp at hi;exact hi
 subst this
 rw[show 0+0*2+j=j by omega]
 exact(cell_of_row w p j _ _ _ h).trans (by rw[List.getElem?_toArray];exact hv)⟩
def prA:PrC:=⟨⟨#[97]⟩,⟨#[49]⟩⟩
def que(w:World)(e:Ending)(w':World):Prop:=∃A c,e=.returned (.agg #[.slice A 1 c,.slice none 0 0])/\Own PrC.enc 75 2 w' w.heap.size A c [prA]/\Below w.heap.size w w'
theorem qBo{T:Nat->List qa3}(hT:T=updB (λ_=>[]) (bucket ⟨#[97]⟩) [lkA]){l:List qa3}(h:qA4 T l):l=[lkA]:=by
 have hc:catB T 8=[lkA]:=by
  have hb:bucket ⟨#[97]⟩<8:=qb6 _;rw[hT];generalize bucket ⟨#[97]⟩=k at *;rcases(by omega:k=0\/k=1\/k=2\/k=3\/k=4\/k=5\/k=6\/k=7)with rfl|rfl|rfl|rfl|rfl|rfl|rfl|rfl <;> rfl
 have hp:=h.1;rw[hc]at hp;exact List.perm_singleton.1 hp
def ShL(w w1:World)(A3:Option Addr)(c3:Nat)(v16:Value)(wr:World):Prop:=w1.heap.size<=wr.heap.size /\
 wr.heap[w.heap.size]? =some (.cells #[.slice none 0 0,.slice none 0 0] 48 (0,0))/\Below w.heap.size w wr /\
 ∃A c l,wr.heap[w.heap.size+1]? =some (.cells #[.slice A l.length c,.slice none 0 0] 48 (0,0))/\Own PrC.enc 75 2 wr w1.heap.size A c l/\((v16=.int .i64 0/\l=[]/\c=0/\Own qa3.enc 85 5 wr w1.heap.size A3 c3 [lkA])\/(v16=.int .i64 1/\l=[prA]))
section
variable {g:Own8}{w:World}{a:Nat}{P:qag}{M:qa4}
theorem qxg(h:qa6 g w a P M)(hd:Don M)(hqn:M.qn<=900000):Calls prog 37 #[.pointer (some ⟨a,0,none⟩)] w (que w):=by
 obtain⟨hT,hQ,h2,hnow⟩:=hd;have TT:=hid (λW (hW:Below w.heap.size w W)=>qga (h.below hW));have TLi:=hid (λW (hW:Below w.heap.size w W)=>qme (h.below hW));have hcat:(catB M.T 8).length<=900000:=by
  have hb:bucket ⟨#[97]⟩<8:=qb6 _;rw[hT];generalize bucket ⟨#[97]⟩=k at *;rcases(by omega:k=0\/k=1\/k=2\/k=3\/k=4\/k=5\/k=6\/k=7)with rfl|rfl|rfl|rfl|rfl|rfl|rfl|rfl <;> decide
 have HTA:Hid (∀W,Below w.heap.size w W->Calls prog 60 #[.pointer (some ⟨P.tb,0,none⟩)] W (qku M.T W)):=hid λW hW=>qio (h.below hW).tab hcat
 have HLA:Hid (∀W,Below w.heap.size w W->Calls prog 63 #[.pointer (some ⟨P.lp,0,none⟩)] W (qdl M.Q W)):=hid λW hW=>qgl (h.below hW) hqn
 have HV:Hid (∀W,Below w.heap.size w W->Calls prog 61 #[.pointer (some ⟨a,0,none⟩),.agg #[.string ⟨#[97]⟩,.int .u64 1,.int .u64 1,.int .i64 2,.int .i64 0],.int .i64 1] W (qye W)):=hid λW hW=>qxf (h.below hW) h2 hnow
 rw[hQ]at HLA;have HAL:=hid (λl (hl:qA4 M.T l)=>qBo hT hl);clear h hT hQ h2 hnow hcat;go_enter func37,ntmps37;go_upto_region 2 with fail;generalize hw1:World.alloc (World.alloc _ _) _=w1;have R2:w1.heap[w.heap.size]? =some (.cells #[.slice none 0 0,.slice none 0 0] 48 (0,0)):=by rw[<-hw1];exact((qa2 _ _ _).trans (if_neg (by rw[World.size_alloc];omega))).trans (qaq _ _)
 have R3:w1.heap[w.heap.size+1]? =some (.cells #[.slice none 0 0,.slice none 0 0] 48 (0,0)):=by rw[<-hw1];exact(by have:=qaq (w.alloc (.cells #[.slice none 0 0,.slice none 0 0] 48)) (.cells #[.slice none 0 0,.slice none 0 0] 48);rw[World.size_alloc]at this;exact this)
 have b1:Below w.heap.size w w1:=by rw[<-hw1];exact((Below.refl _ _).alloc (Nat.le_refl _) _).alloc (by rw[World.size_alloc];omega) _
 have HB1:=hid b1;have HR2:=hid R2;have HR3:=hid R3;have hl1:=qa0 R3;clear hw1 b1 R2 R3;go_wp2_with fail;refine(TT.out w1 HB1.out).mono ?_;rintro e w2⟨rfl,he⟩;rw[he];clear he TT;go_wp2_with fail;refine(HTA.out w1 HB1.out).mono ?_;rintro e w3⟨A3,c3,l3,rfl,hown3,hb3,hall⟩;have hl3:=HAL.out l3 hall;subst hl3;have HO3:=hid hown3;have HB3:=hid hb3;have HR2:=hid ((hb3.block _ (by omega)).trans HR2.out);have HR3:=hid ((hb3.block _ (by omega)).trans HR3.out);have hz3:=hb3.size;have HA3:=hid (HB1.out.trans (hb3.mono HB1.out.size));clear hown3 hb3 HTA HAL hall;go_wp2_with fail;go_loopw [16] (λv16 wr=>ShL w w1 A3 c3 v16 wr) (λv16 _=>1-(intOf v16).toNat)
 case atStart=>exact⟨hz3,HR2.out,HA3.out,none,0,[],HR3.out,Own.zero,.inl ⟨rfl,rfl,rfl,HO3.out⟩⟩
 case round =>
  obtain⟨hzr,r2,hbr,A,c,l,r3,hpr,(⟨rfl,rfl,rfl,ho⟩|⟨rfl,rfl⟩)⟩:=hrel
  · obtain⟨b,off,rfl,hB,k0,k1,k2,k3,k4⟩:=(ho.arr qa3.enc_len).link (i:=0) (by decide)
    have k0:wr.cell? ⟨b,off,none⟩=some (.string ⟨#[97]⟩):=k0;have k1:wr.cell? ⟨b,off+1,none⟩=some (.int .u64 1):=k1;have k2:wr.cell? ⟨b,off+2,none⟩=some (.int .u64 1):=k2;have k3:wr.cell? ⟨b,off+3,none⟩=some (.int .i64 2):=k3;have k4:wr.cell? ⟨b,off+4,none⟩=some (.int .i64 0):=k4;have HBR:=hid hbr;have HPR:=hid hpr;have HR2:=hid r2;have HR3:=hid r3;clear hbr ho hpr r2 r3;go_upto_region 5 with fail;generalize hw4:World.alloc _ _=w4;have R4:w4.heap[wr.heap.size]? =some (.cells #[.string ⟨#[97]⟩,.int .u64 1,.int .u64 1,.int .i64 2,.int .i64 0] 85 (0,0)):=by rw[<-hw4];exact qaq _ _
    have b4:Below wr.heap.size wr w4:=by rw[<-hw4];exact(Below.refl _ _).alloc (Nat.le_refl _) _
    have y0:w4.cell? ⟨wr.heap.size,0,none⟩=some (.string ⟨#[97]⟩):=cell_of_row w4 _ 0 _ _ _ R4;have y1:w4.cell? ⟨wr.heap.size,1,none⟩=some (.int .u64 1):=cell_of_row w4 _ 1 _ _ _ R4;have y2:w4.cell? ⟨wr.heap.size,2,none⟩=some (.int .u64 1):=cell_of_row w4 _ 2 _ _ _ R4;have y3:w4.cell? ⟨wr.heap.size,3,none⟩=some (.int .i64 2):=cell_of_row w4 _ 3 _ _ _ R4;have y4:w4.cell? ⟨wr.heap.size,4,none⟩=some (.int .i64 0):=cell_of_row w4 _ 4 _ _ _ R4;have hl4:=qa0 R4;have HB4:=hid b4;have hlr:=qa0 HR3.out;have HA4:=hid (HBR.out.trans (b4.mono HBR.out.size));clear hw4 b4 R4 k0 k1 k2 k3 k4;go_wp2_with fail;refine(HV.out w4 HA4.out).mono ?_;rintro e w5⟨rfl,hb5⟩;have y0:=(hb5.cell (p:=⟨wr.heap.size,0,none⟩) hl4).trans y0;have HB5:=hid (HB4.out.trans (hb5.mono HB4.out.size));have hz5:=HB5.out.size;have R53:=(HB5.out.block _ hlr).trans HR3.out;have q0:w5.cell? ⟨w.heap.size+1,0,none⟩=some (.slice A ([]:List PrC).length 0):=cell_of_row w5 _ 0 _ _ _ R53;have HR53:=hid R53;have HP5:=hid (HPR.out.below HB5.out);have hl5:wr.heap.size<w5.heap.size:=by have:=hb5.size;omega
    have hl53:=qa0 R53;have PrNot:Hid (∀(A:Option Addr) (c:Nat),Own PrC.enc 75 2 w5 w1.heap.size A c []->qa8 A c≠some (w.heap.size+1)):=hid λA c ho e=>by have:=qe4 ho _ e;omega
    have HB5X:=hid ((Below.refl w5.heap.size w5).alloc (Nat.le_refl _) (.cells prA.enc.toArray 75));clear hb5 y1 y2 y3 y4 hl4 R53;go_wp2_with(at_builtin;go_loud(refine qB7 (l:=[]) (m:=[prA]) (A:=A) (c:=0) (lo:=w1.heap.size) _ rfl (.tmp 28) (.tmp 33) rfl (by simp[Act.eval]) (HP5.out.alloc _) 1 rfl (qty (qaq _ _)) (by decide) (by simp;omega) ?_;intro A6 c6 w6 hown6 hgr6 hloc6;have R63:=((hgr6.block _ (by rw[World.size_alloc];omega) (PrNot.out _ _ HP5.out).symm).trans (HB5X.out.block _ hl53)).trans HR53.out;have q6:=cell_of_row w6 _ 0 _ _ _ R63;have f6:=frozen_of_row w6 _ 0 _ _ R63;have hl6:=qa0 R63));have hb6:=qde ((HP5.out.alloc (.cells prA.enc.toArray 75)).lower (lo':=w.heap.size) (by omega)) hgr6 ((HBR.out.trans (HB5.out.mono HBR.out.size)).alloc (by have:=HBR.out.size;omega) _) (by simp;have:=HBR.out.size;omega);have hz6:=hgr6.size;rw[World.size_alloc]at hz6;have r26:=((hgr6.block w.heap.size (by rw[World.size_alloc];omega) (λe=>by cases e)).trans (HB5X.out.block _ (by omega))).trans ((HB5.out.block _ (by omega)).trans HR2.out);refine⟨⟨by rw[World.size_setCell];omega,(Below.heap_setCell _ _ _ _ (by show w.heap.size≠w.heap.size+1;omega)).trans r26,hb6.setCell (by show w.heap.size<=w.heap.size+1;omega) _,A6,c6,[prA],?_,?_,.inr ⟨rfl,rfl⟩⟩,by decide⟩
    · exact heap_setCell_same _ _ 0 _ _ _ R63
    · exact hown6.keep λb _ _ hlo _=>Below.heap_setCell _ _ _ _ (by show b≠w.heap.size+1;omega)
  · have HBR:=hid hbr
    have HPR:=hid hpr;have HR2:=hid r2;have HR3:=hid r3;clear hbr hpr r2 r3;go_wp2_with fail;refine(TLi.out wr HBR.out).mono ?_;rintro e w2'⟨rfl,he⟩;rw[he];clear he TLi;go_wp2_with fail;refine(HLA.out wr HBR.out).mono ?_;rintro e w7⟨A7,c7,rfl,hown7,hb7⟩;have hlr:=qa0 HR3.out;have R72:=(hb7.block _ (by omega)).trans HR2.out;have R73:=(hb7.block _ hlr).trans HR3.out;have HP7:=hid (HPR.out.below hb7);have HB7:=hid (HBR.out.trans (hb7.mono HBR.out.size));clear hown7 hb7 HLA;have HR72:=hid R72;have HR73:=hid R73;have q0:=cell_of_row w7 _ 0 _ _ _ R73;have q1:=cell_of_row w7 _ 1 _ _ _ R73;have z0:=cell_of_row w7 _ 0 _ _ _ R72;have z1:=cell_of_row w7 _ 1 _ _ _ R72;have f2:=λo=>frozen_of_row w7 _ o _ _ R72
    have f20:=f2 0;have f21:=f2 1;have hl73:=qa0 R73;have hl72:=qa0 R72;clear R72 R73 f2;go_wp2_with fail;go_loopw [41] (λv41 wr'=>v41=.int .i64 0/\wr'=w7) (λ_ _=>0)
    case atStart=>exact⟨rfl,rfl⟩
    case round =>
     obtain⟨rfl,hw⟩:=hrel;rw[hw];clear hw;go_wp2_with fail;generalize hw8:World.setCell (World.setCell w7 _ _) _ _=w8;have R8:w8.heap[w.heap.size]? =some (.cells #[.slice A 1 c,.slice none 0 0] 48 (0,0)):=by rw[<-hw8];exact heap_setCell_same _ _ 1 _ _ _ (heap_setCell_same _ _ 0 _ _ _ HR72.out)
     have b8:Below w.heap.size w w8:=by rw[<-hw8];exact(HB7.out.setCell (Nat.le_refl _) _).setCell (Nat.le_refl _) _
     have hp8:Own PrC.enc 75 2 w8 w1.heap.size A c [prA]:=by
      rw[<-hw8];exact(HP7.out.keep λb _ _ hlo _=>Below.heap_setCell _ _ _ _ (by show b≠w.heap.size;omega)).keep λb _ _ hlo _=>Below.heap_setCell _ _ _ _ (by show b≠w.heap.size;omega)
     have c0:=cell_of_row w8 _ 0 _ _ _ R8;have c1:=cell_of_row w8 _ 1 _ _ _ R8;refine bodyPost_ret (v:=.agg #[.slice A 1 c,.slice none 0 0]) (by simp[results,results37,go_sem,c0,c1]) rfl ⟨A,c,rfl,hp8.lower (by omega),b8⟩
end
end
end Go.Proofs.YtecikkjbnkhhkaaGreat
