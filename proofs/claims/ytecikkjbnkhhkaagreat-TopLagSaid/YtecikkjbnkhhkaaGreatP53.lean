/- A part of the walk. -/
import Derived.Test.YtecikkjbnkhhkaaGreatP50
import Derived.Test.YtecikkjbnkhhkaaGreatP48
import Derived.Test.YtecikkjbnkhhkaaGreatP52
namespace Go.Proofs.YtecikkjbnkhhkaaGreat
open _root_.Go.Proofs.Tryz
section
open Go.RowKit
theorem WIn.below{wb a:Nat}{P:qag}{c:CfgC}{s:Nat}{g:Own8}{w w':World}{r:Option Nat}(h:WIn wb a P c s g w r)(hb:Below w.heap.size w w'):WIn wb a P c s g w' r:=by
 obtain⟨M,T,D,steps,sA,sc,S,hw,h2⟩:=h;exact⟨M,T,D,steps,sA,sc,S,hw.below hb,h2⟩
theorem qbr.kept{w w':World}{lo:Nat}{cl:qa7}{G:List qa7}(h:qbr w w.heap.size cl G)(hn:G=[]\/∃x off,cl.gA=some ⟨x,off,none⟩/\lo<=x)(hk:∀x,lo<=x->x<w.heap.size->w'.heap[x]? =w.heap[x]?)(hz:w.heap.size<=w'.heap.size):qbr w' w'.heap.size cl G:=by
 refine⟨?_,h.len,h.cap,h.max⟩;rcases hn with rfl|⟨x,off,hA,hx⟩
 · exact Arr.nil
 rcases h.arr with h0|⟨b,o,hA',hb,hc⟩
 · exact .inl h0
 · rw[hA]at hA'
   cases hA'
   refine .inr ⟨x,off,hA,by omega,λi hi j v hv=>?_⟩;rw[<-hc i hi j v hv];exact qaj (p:=⟨x,_,none⟩) (hk x hx hb)
section
variable {g:Own8}{w:World}{wb a:Nat}{P:qag}{c:CfgC}{s:Nat}{r:Option Nat}
end
theorem Arr.ev{w:World}{B:Nat}{A:Option Addr}{l:List EvC}(h:Arr EvC.enc 9 w B A l){i:Nat}(hi:i<l.length):∃b off,A=some ⟨b,off,none⟩/\b<B/\w.cell? ⟨b,off+i*9,none⟩=some (.int .i64 l[i].k)/\w.cell? ⟨b,off+i*9+1,none⟩=some (.int .i64 l[i].t)/\w.cell? ⟨b,off+i*9+2,none⟩=some (.int .i64 l[i].l) /\
 w.cell? ⟨b,off+i*9+3,none⟩=some (.int .i64 l[i].cl.kind)/\w.cell? ⟨b,off+i*9+4,none⟩=some (.string l[i].cl.key)/\w.cell? ⟨b,off+i*9+5,none⟩=some (.string l[i].cl.val)/\w.cell? ⟨b,off+i*9+6,none⟩=some (.string l[i].cl.tx)/\w.cell? ⟨b,off+i*9+7,none⟩=some (.slice l[i].cl.gA l[i].cl.gn l[i].cl.gc)/\w.cell? ⟨b,off+i*9+8,none⟩=some (.slice l[i].kA l[i].kn l[i].kc):=by
 rcases h with h|⟨b,off,hA,hb,hc⟩
 · subst h;exact absurd hi (Nat.not_lt_zero _)
 · exact⟨b,off,hA,hb,hc i hi 0 _ rfl,hc i hi 1 _ rfl,hc i hi 2 _ rfl,hc i hi 3 _ rfl,hc i hi 4 _ rfl,hc i hi 5 _ rfl,hc i hi 6 _ rfl,hc i hi 7 _ rfl,hc i hi 8 _ rfl⟩
end
section
open Go.RowKit
def SyOK(f:qa5)(d:FrD):Prop:=f.call.kind=8/\(f.phase=0\/f.phase=10)/\quy d
def FrL(L:Nat)(f:qa5)(d:FrD):Prop:=FrOK L f d\/SyOK f d
structure LOK(P:qag)(M:qa4)(T:List ThrC)(D:Nat->FrD)(S:List qap)(s th:Nat):Prop where
 ok:OkA M (3*s) th
 clk:qCk P M
 bag:qC5 M.bag
 now:M.now<=s+1
 rn:M.rnow<=s+1
 thr:qmg (FrL M.D.length) T D S.length
 sl:S.length<=s
def WInL(wb a:Nat)(P:qag)(th s x y:Nat)(g:Own8)(w:World)(r:Option Nat):Prop:=
 ∃M T D steps sA sc S c,c.th=th/\Ph3 c.ph/\WAt g w wb a P M c T D steps sA sc S/\r=qa8 sA sc/\LOK P M T D S s th/\M.now=x/\M.dur=y/\0<=steps/\steps<=(s:Int)
def qCe(wb a:Nat)(P:qag)(th s x y:Nat)(r:Option Nat)(g:Own8)(w:World)(e:Ending)(w':World):Prop:=∃code:Int,e=.returned (.int .i64 code)/\∃g' r' x' y',x<=x'/\y<=y'/\WInL wb a P th s x' y' g' w' r'/\qaz g w wb r g' w' r'
def QL(P:qag)(th s x y:Nat)(_:Int)(c':CfgC)(M':qa4)(T':List ThrC)(D':Nat->FrD)(S':List qap):Prop:=c'.th=th/\Ph3 c'.ph/\LOK P M' T' D' S' (s+1) th/\x<=M'.now/\y<=M'.dur
theorem LOK.pre{P:qag}{M:qa4}{T:List ThrC}{D:Nat->FrD}{S:List qap}{s th:Nat}(h:LOK P M T D S s th)(hs:s<=1000)(ht:1<=th):KPre P M:=
 ⟨h.clk,h.bag,by rw[h.ok.th.2];exact ht,by have:=h.ok.slabs;omega,by have:=h.now;omega,by have:=h.rn;omega⟩
theorem LOK.more{P:qag}{M:qa4}{T:List ThrC}{D:Nat->FrD}{S:List qap}{s th:Nat}(h:LOK P M T D S s th):LOK P M T D S (s+1) th:=⟨h.ok.mono (by omega),h.clk,h.bag,by have:=h.now;omega,by have:=h.rn;omega,h.thr,by have:=h.sl;omega⟩
theorem LOK.kp{P:qag}{M M':qa4}{T T':List ThrC}{D D':Nat->FrD}{S S':List qap}{s th:Nat}(h:LOK P M T D S s th)(k:KpOK P M M')(ht:qmg (FrL M.D.length) T' D' S'.length)(hS:S'.length=S.length):LOK P M' T' D' S' (s+1) th:=
 ⟨(k.ok _ _ h.ok).mono (by omega),k.clk,k.bag,by have:=k.now.2;have:=h.now;omega,by have:=k.rn;have:=h.rn;omega,by rw[k.len];exact ht,by have:=h.sl;omega⟩
theorem qCk.same{P:qag}{M M':qa4}(h:qCk P M)(hn:M'.now=M.now/\M'.dur=M.dur)(hk:qC4 M M'):qCk P M':=by
 unfold qCk;rw[hn.1,hn.2,hk.1,hk.2.1];exact h
theorem qCk.lag{P:qag}{M:qa4}(h:qCk P M):M.dur+1<=M.now/\M.now<=M.dur+2:=by
 rcases h with⟨_,h⟩|⟨_,h1,h2,_⟩ <;> omega
theorem SyOK.begin{cl:qa7}{G gs:List qa7}{w:World}{lo c2:Nat}{A2:Option Addr}(h:qd2 w lo cl G)(h8:cl.kind=8)(hs:Sims gs G):SyOK (qgk cl A2 cl.gn c2) ⟨gs,[],[],[]⟩:=by
 have hl:=hs.1;have hg:=h.gr.1;exact⟨h8,.inl rfl,⟨by show gs.length<=100000;omega,h.gr.2.2.sims hs⟩,Nat.zero_le _,Nat.zero_le _,Nat.zero_le _⟩
section
variable {g:Own8}{w:World}{wb a th s x y:Nat}{P:qag}{r:Option Nat}
theorem qC7{steps:Int}(hst:0<=steps/\steps<=(s:Int)){e:Ending}{w':World}(h:qyi (QL P th s x y) wb a P steps r g w e w'):qCe wb a P th (s+1) x y r g w e w':=by
 obtain⟨steps',h1,h2,code,rfl,g',c',M',T',D',sA',sc',S',⟨hth,hp,hl,hx,hy⟩,hw,hk⟩:=h;exact⟨code,rfl,g',_,_,_,hx,hy,⟨M',T',D',steps',sA',sc',S',c',hth,hp,hw,rfl,hl,rfl,rfl,by omega,by omega⟩,hk⟩
theorem qCn{M:qa4}{c:CfgC}{T:List ThrC}{D:Nat->FrD}{steps:Int}{sA:Option Addr}{sc:Nat}{S:List qap}{code:Int}(h:WAt g w wb a P M c T D steps sA sc S)(hth:c.th=th)(hp:Ph3 c.ph)(q:LOK P M T D S s th){e:Ending}{w':World}(he:e=.returned (.int .i64 code)/\Below w.heap.size w w'):qo9 (QL P th s M.now M.dur) wb a P steps (qa8 sA sc) g w e w':=
 ⟨code,he.1,g,c,M,T,D,sA,sc,S,⟨hth,hp,q.more,Nat.le_refl _,Nat.le_refl _⟩,h.below he.2,qaz.below he.2⟩
theorem qDq(h:WInL wb a P th s x y g w r)(hs:s<=1000)(hth:th<=4)(t:Nat)(ht:t<th)(l:Int)(cl:qa7)(kA:Option Addr)(kn kc:Nat){G:List qa7}{w0:World}{lo:Nat}(hc:qd2 w0 lo cl G)(hin:qbr w w.heap.size cl G)(hgK:G=[]\/∃x off,cl.gA=some ⟨x,off,none⟩/\KW g w.heap.size wb r x):
 Calls prog 14 #[.pointer (some ⟨wb,0,none⟩),.agg (evL 1 (t:Int) l cl kA kn kc).toArray] w (qCe wb a P th (s+1) x y r g w):=by
 obtain⟨M,T,D,steps,sA,sc,S,c,hct,hp3,hw,rfl,q,rfl,rfl,h0,h1⟩:=h;have hT:=hw.bx.len;have htT:t<T.length:=by omega
 have hsl:=q.sl;have hg3:=hc.gr.1;refine(qh1 hw ⟨by omega,h0⟩ (κ:=1) (m:=0) rfl (by decide) λW hW=>?_).mono λ_ _=>qC7 ⟨h0,h1⟩
 have hwW:=hw.below hW;have hz:=hW.size;rcases Bool.eq_false_or_eq_true T[t].busy with hb|hb
 · exact(qpk hwW (by omega) (by omega) htT _ _ _ _ _ _ hb).mono λ_ _=>qCn hwW hct hp3 q
 · refine(qil hwW (by omega) (by omega) htT ((hin.below hW).more hz) (by omega) hc.gr.2.2 (hgK.imp id λ⟨x,off,hA,hx⟩=>⟨x,off,hA,by have:=hx.1;omega,hx.2⟩) hb (by omega) ⟨by omega,h0⟩).mono ?_
   rintro e w2⟨rfl,A2,c2,gs,x,A',c',hsm,hw2,hk2⟩;refine⟨0,rfl,g,c,M,_,_,A',c',_,⟨hct,hp3,⟨q.ok.mono (by omega),q.clk,q.bag,by have:=q.now;omega,by have:=q.rn;omega,?_,?_⟩,Nat.le_refl _,Nat.le_refl _⟩,hw2,hk2⟩
   · refine q.thr.set (by rw[List.length_append];omega) _ _ (.inr ⟨rfl,?_,S.length,rfl,by rw[List.length_append];exact Nat.lt_succ_self _⟩)
     by_cases h8:cl.kind=8
     · exact .inr (SyOK.begin hc h8 hsm)
     · exact .inl (FrOK.begin hc h8 hsm)
   · rw[List.length_append];exact Nat.succ_le_succ hsl
theorem qDo(h:WInL wb a P th s x y g w r)(hs:s<=1000)(hth:th<=4)(t:Nat)(ht:t<th)(l:Int)(cl:qa7)(kA:Option Addr)(kn kc:Nat):
 Calls prog 14 #[.pointer (some ⟨wb,0,none⟩),.agg (evL 2 (t:Int) l cl kA kn kc).toArray] w (qCe wb a P th (s+1) x y r g w):=by
 obtain⟨M,T,D,steps,sA,sc,S,c,hct,hp3,hw,rfl,q,rfl,rfl,h0,h1⟩:=h;have hT:=hw.bx.len;have htT:t<T.length:=by omega
 have hsl:=q.sl;refine(qh1 hw ⟨by omega,h0⟩ (κ:=2) (m:=1) rfl (by decide) λW hW=>?_).mono λ_ _=>qC7 ⟨h0,h1⟩
 have hwW:=hw.below hW;have hz:=hW.size;rcases q.thr t htT with hb|⟨hb,hfr,si,hst,hsi⟩
 · exact(qpj hwW (by omega) (by omega) htT _ _ _ _ _ _ hb).mono λ_ _=>qCn hwW hct hp3 q
 · rcases hfr with hfr|hsy
   · refine(qik (R:=OkRK M (3*s) th) hwW (by omega) (by omega) htT hb hst hsi (by omega) ⟨by omega,h0⟩ hfr.kind (λX hX=>?_)).mono ?_
     · have hwX:=hwW.below hX
       have hfi:=(hwX.thr t htT).fin;have hn:3*s<=40000:=by omega
       unfold qpc;split
       · rename_i h45
         exact qrj hwX.ar q.ok hn ht hfi hfr h45
       · split
         · rename_i h7
           exact qt2 hwX.ar q.ok hn ht hfi hfr h7
         · refine qs4 hwX.ar q.ok hn ht hfi hfr ?_
           have:=hfr.kind;omega
     · rintro e w2⟨rfl,f1,d1,M',f',d',g',c',T',D',S',hsame,⟨hr,hk⟩,hcc,hSl,hw2,hk2,hcase⟩
       rw[show c'=c from hcc]at hw2;refine⟨0,rfl,g',c,M',T',D',sA,sc,S',⟨hct,hp3,⟨hr.ok.mono (by omega),q.clk.same hr.now hk,hk.2.2.2 q.bag,by rw[hr.now.1];have:=q.now;omega,by rw[hk.2.2.1];have:=q.rn;omega,?_,by omega⟩,by rw[hr.now.1];exact Nat.le_refl _,by rw[hr.now.2];exact Nat.le_refl _⟩,hw2,hk2⟩;rw[hr.len,hSl];rcases hcase with⟨h7,rfl,rfl⟩|⟨h7,rfl,rfl⟩
       · refine q.thr.set (Nat.le_refl _) _ _ (.inr ⟨hb,?_,si,hst,hsi⟩)
         rcases hr.fr with e|e
         · exact absurd e h7
         · exact .inl e
       · exact q.thr.set (Nat.le_refl _) _ _ (.inl rfl)
   · refine(qDg (C:=qFn c) (R:=SyW P M) hwW (by omega) (by omega) htT hb hst hsi (by omega) ⟨by omega,h0⟩ (λX hX=>qCx (hwW.below hX) (q.pre hs (by omega)) htT hsy.1 hsy.2.1 hsy.2.2)).mono ?_
     rintro e w2⟨rfl,f1,d1,M',f',d',g',c',T',D',S',hsame,⟨⟨hr,ph,ep,aep,hf',hph⟩,hd'⟩,⟨stv,hcc⟩,hSl,hw2,hk2,hcase⟩;have hko:=qEy hr q.clk q.bag;refine⟨0,rfl,g',c',M',T',D',sA,sc,S',⟨by rw[hcc];exact hct,by rw[hcc];exact hp3,q.kp hko ?_ hSl,hko.now.1,hko.dur⟩,hw2,hk2⟩;rw[hSl];rcases hcase with⟨h7,rfl,rfl⟩|⟨h7,rfl,rfl⟩
     · refine q.thr.set (Nat.le_refl _) _ _ (.inr ⟨hb,.inr ⟨?_,?_,?_⟩,si,hst,hsi⟩)
       · rw[hf']
         exact hsame.phase.2.trans hsy.1
       · rw[hf']at h7 ⊢
         rcases hph with h|h
         · exact absurd h h7
         · exact .inr h
       · rw[hd']
         have hz:=hsy.2.2;exact⟨⟨by have:=hsame.gr.1;have:=hz.gr.1;omega,hz.gr.2.sims hsame.gr⟩,by rw[hsame.bs];exact hz.bs,by rw[hsame.ps];exact hz.ps,by rw[hsame.hs];exact hz.hs⟩
     · exact q.thr.set (Nat.le_refl _) _ _ (.inl rfl)
theorem qDp(h:WInL wb a P th s x y g w r)(hs:s<=1000)(hth:1<=th)(t l:Int)(cl:qa7)(kA:Option Addr)(kn kc:Nat):
 Calls prog 14 #[.pointer (some ⟨wb,0,none⟩),.agg (evL 3 t l cl kA kn kc).toArray] w (qCe wb a P th (s+1) x y r g w):=by
 obtain⟨M,T,D,steps,sA,sc,S,c,hct,hp3,hw,rfl,q,rfl,rfl,h0,h1⟩:=h;refine(qh1 hw ⟨by omega,h0⟩ (κ:=3) (m:=2) rfl (by decide) λW hW=>?_).mono λ_ _=>qC7 ⟨h0,h1⟩
 refine(qDz (hw.below hW) (q.pre hs hth) hp3 _ _ _ _ _ _ _).mono λe w2 hp=>hp.mono ?_
 rintro k c' M' T' D' S'⟨⟨ph,left,st,hp',hcc⟩,hr,rfl,rfl,rfl⟩;have hko:=qEy hr q.clk q.bag;exact⟨by rw[hcc];exact hct,by rw[hcc];exact hp',q.kp hko q.thr rfl,hko.now.1,hko.dur⟩
theorem qDr(h:WInL wb a P th s x y g w r)(hs:s<=1000)(t l:Int)(cl:qa7)(kA:Option Addr)(kn kc:Nat):
 Calls prog 14 #[.pointer (some ⟨wb,0,none⟩),.agg (evL 4 t l cl kA kn kc).toArray] w (qCe wb a P th (s+1) x y r g w):=by
 obtain⟨M,T,D,steps,sA,sc,S,c,hct,hp3,hw,rfl,q,rfl,rfl,h0,h1⟩:=h;refine(qh1 hw ⟨by omega,h0⟩ (κ:=4) (m:=3) rfl (by decide) λW hW=>?_).mono λ_ _=>qC7 ⟨h0,h1⟩
 refine(qrf (hw.below hW) _ _ _ _ _ _ _).mono λe w2 hp=>hp.mono ?_
 rintro k c' M' T' D' S'⟨rfl,rfl,rfl,rfl,DD,hDD,rfl⟩;exact⟨hct,hp3,⟨(q.ok.setD hDD).mono (by omega),q.clk,q.bag,by have:=q.now;show M.now<=_;omega,by have:=q.rn;show M.rnow<=_;omega,by show qmg (FrL DD.length) _ _ _;rw[hDD];exact q.thr,by have:=q.sl;omega⟩,Nat.le_refl _,Nat.le_refl _⟩
end
end
end Go.Proofs.YtecikkjbnkhhkaaGreat
