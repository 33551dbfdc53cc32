/- A part of the walk. -/
import Derived.Test.YtecikkjbnkhhkaaGreatP46
import Derived.Test.YtecikkjbnkhhkaaGreatP47
namespace Go.Proofs.YtecikkjbnkhhkaaGreat
open _root_.Go.Proofs.Tryz
set_option maxHeartbeats 4000000
set_option maxRecDepth 100000
section
open Go.RowKit
section
variable {g:Own8}{w:World}{wb a:Nat}{P:qag}{M:qa4}{c:CfgC}{T:List ThrC}{D:Nat->FrD}{steps:Int}{sA:Option Addr}{sc:Nat}{S:List qap}{Q:Int->CfgC->qa4->List ThrC->(Nat->FrD)->List qap->Prop}
def qyi(Q:Int->CfgC->qa4->List ThrC->(Nat->FrD)->List qap->Prop)(wb a:Nat)(P:qag)(steps:Int)(r:Option Nat)(g:Own8)(w:World)(e:Ending)(w':World):Prop:=∃steps',steps<=steps'/\steps'<=steps+1/\qo9 Q wb a P steps' r g w e w'
theorem WAt.step1(h:WAt g w wb a P M c T D steps sA sc S)(v:Int):WAt g (w.setCell ⟨wb,128,none⟩ (.int .i64 v)) wb a P M c T D v sA sc S:=
 h.rebox ⟨rfl,rfl,rfl,World.size_setCell ..⟩ (λj hj=>Below.heap_setCell _ _ _ _ hj) (h.bx.setTail (j:=0) (by omega) _ rfl) h.thr
theorem qaz.cellB(g:Own8)(w:World)(wb:Nat)(r:Option Nat)(o:Nat)(v:Value):qaz g w wb r g (w.setCell ⟨wb,o,none⟩ v) r:=
 .box ⟨rfl,rfl,rfl,World.size_setCell ..⟩ λ_j hj=>Below.heap_setCell _ _ _ _ hj
theorem qh1(h:WAt g w wb a P M c T D steps sA sc S)(hstep:steps+1<=1000000/\0<=steps){κ:Int}{m:Nat}(hκ:κ=(m:Int)+1)(hm:m<4){t l:Int}{cl:qa7}{kA:Option Addr}{kn kc:Nat}
 (HC:∀W,Below w.heap.size w W->Calls prog (doN m) #[.pointer (some ⟨wb,0,none⟩),.agg (evL κ t l cl kA kn kc).toArray] W (qo9 Q wb a P steps (qa8 sA sc) g W)):
 Calls prog 14 #[.pointer (some ⟨wb,0,none⟩),.agg (evL κ t l cl kA kn kc).toArray] w (qyi Q wb a P steps (qa8 sA sc) g w):=by
 have H:=hid h;have HHC:=hid HC;have HK:=hid hκ;have hws:IntKind.i64.wrap (steps+1)=steps+1:=Go.IntWalk.i64_in _ (by omega);clear h HC hκ;unfold evL;go_enter func14,ntmps14;go_upto_region 1 with fail;generalize hw1:World.alloc _ _=w1;have R0:w1.heap[w.heap.size]? =some (.cells (evL κ t l cl kA kn kc).toArray 42 (0,0)):=by rw[<-hw1];exact qaq _ _
 have b1:Below w.heap.size w w1:=by rw[<-hw1];exact(Below.refl _ _).alloc (Nat.le_refl _) _
 have hl0:=qa0 R0;have k0:w1.cell? ⟨w.heap.size,0,none⟩=some (.int .i64 κ):=cell_of_row w1 _ 0 _ _ _ R0;have HB1:=hid b1;have HR0:=hid R0;have hz1:=b1.size;have hm6:m<6:=by omega
 clear hw1 b1 R0;go_cut [5,6] (λv5 v6 wx=>v5=fnV (doN m)/\v6=.bool true/\Below w.heap.size w wx/\wx.heap[w.heap.size]? =some (.cells (evL κ t l cl kA kn kc).toArray 42 (0,0)))
 case first =>
  go_region_held3 (λW=>W.cell? ⟨w.heap.size,0,none⟩=some (.int .i64 κ)) (first|(with_reducible exact k0)|(with_reducible exact HSK)|go_keep) (first|(go_at_call 34;refine(qqo _).mono ?_;rintro e w5⟨r,rfl,m5,b5⟩;have HSK:=(b5.cell (p:=⟨w.heap.size,0,none⟩) hl0).trans k0;have HLK:=qzg m5 hm6;rw[<-HK.out]at HLK;have HB5:=hid b5;clear m5 b5));all_goals
   go_wp2_with fail;go_meet;exact⟨rfl,rfl,HB1.out.drew.trans (HB5.out.mono hz1),(HB5.out.block _ hl0).trans HR0.out⟩
 obtain⟨rfl,rfl,bc,rc⟩:=hcut;obtain⟨w3,hw3⟩:∃x,x=wc:=⟨_,rfl⟩;subst hw3;have c0:w3.cell? ⟨w.heap.size,0,none⟩=some (.int .i64 κ):=cell_of_row w3 _ 0 _ _ _ rc;have c1:w3.cell? ⟨w.heap.size,1,none⟩=some (.int .i64 t):=cell_of_row w3 _ 1 _ _ _ rc;have c2:w3.cell? ⟨w.heap.size,2,none⟩=some (.int .i64 l):=cell_of_row w3 _ 2 _ _ _ rc;have c3:w3.cell? ⟨w.heap.size,3,none⟩=some (.int .i64 cl.kind):=cell_of_row w3 _ 3 _ _ _ rc;have c4:w3.cell? ⟨w.heap.size,4,none⟩=some (.string cl.key):=cell_of_row w3 _ 4 _ _ _ rc;have c5:w3.cell? ⟨w.heap.size,5,none⟩=some (.string cl.val):=cell_of_row w3 _ 5 _ _ _ rc;have c6:w3.cell? ⟨w.heap.size,6,none⟩=some (.string cl.tx):=cell_of_row w3 _ 6 _ _ _ rc;have c7:w3.cell? ⟨w.heap.size,7,none⟩=some (.slice cl.gA cl.gn cl.gc):=cell_of_row w3 _ 7 _ _ _ rc;have c8:w3.cell? ⟨w.heap.size,8,none⟩=some (.slice kA kn kc):=cell_of_row w3 _ 8 _ _ _ rc;have HCC:=hid (HHC.out w3 bc);have HBC:=hid bc;clear k0 rc bc HR0 HB1 hl0 hm6;rcases(by omega:m=0\/m=1\/m=2\/m=3)with rfl|rfl|rfl|rfl
 all_goals
  simp only[fnV,doN];go_wp2_with fail;refine HCC.out.mono ?_;rintro e w5⟨code,rfl,g',c',M',T',D',sA',sc',S',hQ,hW,hKw⟩;have HW:=hid hW;have HKW:=hid ((qaz.below HBC.out).trans hKw);clear hW hKw;rcases Classical.em (code=0)with rfl|hne
  · have n0:w5.cell? ⟨wb,128,none⟩=some (.int .i64 steps):=HW.out.bx.tail 0 rfl
    have nf:=HW.out.bx.fr;have hl5:=HW.out.bx.lt;go_wp2_with fail;go_ret;exact⟨steps+1,by omega,by omega,0,rfl,g',c',M',T',D',sA',sc',S',hQ,HW.out.step1 _,HKW.out.trans (qaz.cellB _ _ _ _ _ _)⟩
  · have hd:decide (code=0)=false:=decide_eq_false hne
    go_wp2_with fail;go_ret;exact⟨steps,by omega,by omega,code,rfl,g',c',M',T',D',sA',sc',S',hQ,HW.out,HKW.out⟩
end
end
section
open Go.RowKit
theorem qyx(n th:Nat)(rest:Int)(dp a:Nat):(((((((Tryz.zeroCells94.setIfInBounds 0 (Value.int IntKind.i64 n)).setIfInBounds 1 (Value.int IntKind.i64 th)).setIfInBounds 2 (Value.int IntKind.i64 rest)).setIfInBounds 3 (Value.pointer (some ⟨dp,0,none⟩))).setIfInBounds 4 (Value.pointer (some ⟨a,0,none⟩))).setIfInBounds 6 (Value.int IntKind.i64 0)).setIfInBounds 7 (Value.int IntKind.i64 rest))=(wldC ⟨n,th,rest,0,rest,0⟩ dp a (List.replicate 4 thr0) 0 none 0 0).toArray:=by kernel_rfl
theorem qog(n th:Nat)(rest:Int)(w:World)(h1:18<=n)(h2:n<=250)(t1:1<=th)(t2:th<=4)(r1:0<=rest/\rest<=10000):Calls prog 12 #[.agg #[.int .i64 (n:Int),.int .i64 (th:Int),.int .i64 rest]] w λe w' =>
 ∃wb a P g,e=.returned (.tuple #[.pointer (some ⟨wb,0,none⟩),.int .i64 0])/\WAt g w' wb a P (newM n th) ⟨n,th,rest,0,rest,0⟩ (List.replicate 4 thr0) (λ_=>d0) 0 none 0 []/\Below w.heap.size w w'/\w.heap.size<=wb/\∀b,b<w.heap.size->g b=0:=by
 have d1:decide (rest<0)=false:=decide_eq_false (by omega);have d2:decide ((10000:Int)<rest)=false:=decide_eq_false (by omega);go_enter func12,ntmps12;go_upto_region 1 with fail;generalize hw1:World.alloc _ _=w1;have R0:w1.heap[w.heap.size]? =some (.cells #[.int .i64 (n:Int),.int .i64 (th:Int),.int .i64 rest] 27 (0,0)):=by rw[<-hw1];exact qaq _ _
 have b1:Below w.heap.size w w1:=by rw[<-hw1];exact(Below.refl _ _).alloc (Nat.le_refl _) _
 have hl0:=qa0 R0;have k0:w1.cell? ⟨w.heap.size,0,none⟩=some (.int .i64 (n:Int)):=cell_of_row w1 _ 0 _ _ _ R0;have k1:w1.cell? ⟨w.heap.size,1,none⟩=some (.int .i64 (th:Int)):=cell_of_row w1 _ 1 _ _ _ R0;have k2:w1.cell? ⟨w.heap.size,2,none⟩=some (.int .i64 rest):=cell_of_row w1 _ 2 _ _ _ R0;have HB1:=hid b1;have HR0:=hid R0;clear hw1 b1 R0;go_wp2_with fail;refine(qtz n th w1 h1 h2 t1 t2).mono ?_;rintro e w2⟨a,P,g,rfl,har,hb2,ha,hg⟩;have HAR:=hid har;have HB2:=hid hb2;have HA:=hid ha;have HG:=hid hg;have hz1:=HB1.out.size;have HQ:=hid ((hb2.block _ hl0).trans HR0.out);have q0:w2.cell? ⟨w.heap.size,0,none⟩=some (.int .i64 (n:Int)):=(hb2.cell (p:=⟨w.heap.size,0,none⟩) hl0).trans k0;have q1:w2.cell? ⟨w.heap.size,1,none⟩=some (.int .i64 (th:Int)):=(hb2.cell (p:=⟨w.heap.size,1,none⟩) hl0).trans k1;have q2:w2.cell? ⟨w.heap.size,2,none⟩=some (.int .i64 rest):=(hb2.cell (p:=⟨w.heap.size,2,none⟩) hl0).trans k2;have DV:=hid (λW (hW:Below w2.heap.size w2 W)=>qek (har.below hW));clear har hb2 ha hg k0 k1 k2 hl0 d1 d2;go_upto_region 6 with fail;go_region_held3 (λW=>W.cell? ⟨w.heap.size,0,none⟩=some (.int .i64 (n:Int))/\W.cell? ⟨w.heap.size,1,none⟩=some (.int .i64 (th:Int))/\W.cell? ⟨w.heap.size,2,none⟩=some (.int .i64 rest)) (first|(with_reducible exact HSK)|(with_reducible exact⟨q0,q1,q2⟩)|go_keep) (first|(go_at_call 32;refine(DV.out _ (by first|exact Below.refl _ _|exact(Below.refl _ _).drew)).mono ?_;rintro e w5⟨rfl,he⟩;rw[he]));have hrow:=qyx n th rest P.dp a;have hal:∀W:World,W.heap=w2.heap->Below w2.heap.size w2 W->(W.alloc (.cells (wldC ⟨n,th,rest,0,rest,0⟩ P.dp a (List.replicate 4 thr0) 0 none 0 0).toArray 94)).heap[w2.heap.size]? =some (.cells (wldC ⟨n,th,rest,0,rest,0⟩ P.dp a (List.replicate 4 thr0) 0 none 0 0).toArray 94 (0,0)):=λW hW _=>by rw[<-hW];exact qaq _ _
 all_goals
  rw[hrow];generalize hw3:World.alloc _ _=w3;have R3:w3.heap[w2.heap.size]? =some (.cells (wldC ⟨n,th,rest,0,rest,0⟩ P.dp a (List.replicate 4 thr0) 0 none 0 0).toArray 94 (0,0)):=by rw[<-hw3];exact hal _ rfl (Below.refl _ _)
  have b3:Below w2.heap.size w2 w3:=by rw[<-hw3];exact(Below.refl _ _).alloc (Nat.le_refl _) _
  have HR3:=hid R3;have HB3:=hid b3.drew;clear hw3 R3 b3 hrow hal;go_wp2_with fail;go_ret2;have har3:=HAR.out.below HB3.out;have hz:=HB2.out.size;refine⟨w2.heap.size,a,P,g,rfl,⟨har3,⟨HR3.out,rfl⟩,HAR.out.far _ (Nat.le_refl _),⟨⟨Nat.zero_le _,by decide,.inl rfl⟩,λj hj=>(by cases hj),λe=>(by cases e)⟩,λi hi=>?_⟩,(HB1.out.trans (HB2.out.mono hz1)).trans (HB3.out.mono (by omega)),by omega,λb hb=>HG.out b (by omega)⟩;have e:(List.replicate 4 thr0)[i].f=qt5:=by rw[List.getElem_replicate];rfl
  rw[e];exact qAz
end
section
open Go.RowKit
section
variable {g:Own8}{w:World}{wb a:Nat}{P:qag}{M:qa4}{c:CfgC}{T:List ThrC}{D:Nat->FrD}{steps:Int}{sA:Option Addr}{sc:Nat}{S:List qap}
theorem qfj(h:WAt g w wb a P M c T D steps sA sc S):Calls prog 36 #[.pointer (some ⟨wb,0,none⟩)] w λe w'=>e=.returned (.pointer (some ⟨a,0,none⟩))/\w'=w:=by
 have c4:=h.bx.head 4 (by omega) rfl;clear h;go_enter func36,ntmps36;go_wp2_with fail;go_ret;exact⟨rfl,rfl⟩
theorem qv4(h:WAt g w wb a P M c T D steps sA sc S):Calls prog 22 #[.pointer (some ⟨wb,0,none⟩)] w λe w'=>e=.returned (.int .u64 (M.now:Int))/\w'=w:=by
 have T1:=hid (qfj h);have T2:=hid (qcr h.ar);have T3:=hid (qkh h.ar.clk.1);clear h;go_enter func22,ntmps22;go_wp2_with fail;refine T1.out.mono ?_;rintro e w1⟨rfl,he⟩;rw[he];go_wp2_with fail;refine T2.out.mono ?_;rintro e w1⟨rfl,he⟩;rw[he];go_wp2_with fail;refine T3.out.mono ?_;rintro e w1⟨rfl,he⟩;rw[he];go_wp2_with fail;go_ret;exact⟨rfl,rfl⟩
theorem qv5(h:WAt g w wb a P M c T D steps sA sc S):Calls prog 23 #[.pointer (some ⟨wb,0,none⟩)] w λe w'=>e=.returned (.int .u64 (M.dur:Int))/\w'=w:=by
 have T1:=hid (qfj h);have T2:=hid (qcr h.ar);have T3:=hid (qx1 h.ar.clk.1);clear h;go_enter func23,ntmps23;go_wp2_with fail;refine T1.out.mono ?_;rintro e w1⟨rfl,he⟩;rw[he];go_wp2_with fail;refine T2.out.mono ?_;rintro e w1⟨rfl,he⟩;rw[he];go_wp2_with fail;refine T3.out.mono ?_;rintro e w1⟨rfl,he⟩;rw[he];go_wp2_with fail;go_ret;exact⟨rfl,rfl⟩
end
end
section
open Go.RowKit
def TkC(a:Nat)(ph left rest act:Int):List Value:=[.pointer (some ⟨a,0,none⟩),.int .i64 ph,.int .i64 left,.int .i64 rest,.int .i64 act]
def Ph3(ph:Int):Prop:=ph=0\/ph=1\/ph=2
def qCh(a b:Nat)(P:qag)(M:qa4)(rest:Int)(g:Own8)(w:World)(e:Ending)(w':World):Prop:=e=.returned (.tuple #[])/\∃(M':qa4) (ph left act:Int) (g':Own8),Ph3 ph/\KpR P M M'/\qa6 g' w' a P M'/\NobR g' w' b 238 (TkC a ph left rest act)/\ExtB b b g g' w w'
section
variable {g:Own8}{w:World}{a b:Nat}{P:qag}{M:qa4}{ph left rest act:Int}
theorem NobR.tk(h:NobR g w b 238 (TkC a ph left rest act)):w.cell? ⟨b,0,none⟩=some (.pointer (some ⟨a,0,none⟩))/\w.cell? ⟨b,1,none⟩=some (.int .i64 ph)/\w.cell? ⟨b,2,none⟩=some (.int .i64 left)/\w.cell? ⟨b,3,none⟩=some (.int .i64 rest)/\w.cell? ⟨b,4,none⟩=some (.int .i64 act)/\∀o,w.frozen? ⟨b,o,none⟩=false:=
 ⟨(cell_of_row w b 0 _ _ _ h.1).trans rfl,(cell_of_row w b 1 _ _ _ h.1).trans rfl,(cell_of_row w b 2 _ _ _ h.1).trans rfl,(cell_of_row w b 3 _ _ _ h.1).trans rfl,(cell_of_row w b 4 _ _ _ h.1).trans rfl,λo=>frozen_of_row w b o _ _ h.1⟩
theorem qD3(h:qa6 g w a P M)(hn:NobR g w b 238 (TkC a ph left rest act))(k:KPre P M)(hp3:Ph3 ph):Calls prog 148 #[.pointer (some ⟨b,0,none⟩)] w (qCh a b P M rest g w):=by
 have H:=hid h;have HN:=hid hn;have HK:=hid k;obtain⟨c0,c1,c2,c3,c4,fr⟩:=hn.tk;have hl:=hn.lt;have HP3:=hid hp3;clear h hn k hp3;by_cases hp:0<left
 · have d1:decide (0<left)=true:=decide_eq_true hp
   go_enter func148,ntmps148;go_wp2_with fail;refine bodyPost_ret (v:=.tuple #[]) (by simp[results,results148]) rfl ⟨rfl,M,ph,_,act,g,HP3.out,.inl rfl,H.out.set0 HN.out.2 2 _,HN.out.set 2 _ rfl,ExtB.set 2 _⟩
 · have d1:decide (0<left)=false:=decide_eq_false hp
   go_enter func148,ntmps148;go_wp2_with fail;refine(qcr H.out).mono ?_;rintro e w1⟨rfl,he⟩;rw[he];clear he;go_wp2_with fail;refine(qEg H.out HK.out).mono ?_;rintro e w2⟨⟨v,rfl⟩,M',hr,g',A2,E2⟩;have HN2:=hid (HN.out.ext E2);have HR:=hid hr;have HA:=hid A2;have HE:=hid E2;obtain⟨x0,x1,x2,x3,x4,fx⟩:=HN2.out.tk;have hl2:=HN2.out.lt;clear hr A2 E2 c0 c1 c2 c3 c4 fr HN hl;go_wp2_with fail;refine bodyPost_ret (v:=.tuple #[]) (by simp[results,results148]) rfl ⟨rfl,M',1,left,act,g',.inr (.inl rfl),HR.out,HA.out.set0 HN2.out.2 1 _,HN2.out.set 1 _ rfl,(ExtB.of_ext HE.out).trans (ExtB.set 1 _)⟩
theorem qD4(h:qa6 g w a P M)(hn:NobR g w b 238 (TkC a ph left rest act))(k:KPre P M)(hp3:Ph3 ph):Calls prog 149 #[.pointer (some ⟨b,0,none⟩)] w (qCh a b P M rest g w):=by
 have H:=hid h;have HN:=hid hn;have HK:=hid k;obtain⟨c0,c1,c2,c3,c4,fr⟩:=hn.tk;have hl:=hn.lt;have HP3:=hid hp3;clear h hn k hp3;go_enter func149,ntmps149;go_wp2_with fail;refine(qcr H.out).mono ?_;rintro e w1⟨rfl,he⟩;rw[he];clear he;go_wp2_with fail;refine(qCf H.out).mono ?_;rintro e w1⟨rfl,he⟩;rw[he];clear he;generalize hbb:(!decide ((M.clo:Int)=0))=bb;cases bb with
 |false =>
  clear hbb;go_wp2_with fail;refine(qeb H.out).mono ?_;rintro e w1⟨rfl,he⟩;rw[he];clear he;go_wp2_with fail;refine(qCy H.out HK.out.rn).mono ?_;rintro e w2⟨⟨v,rfl⟩,g',A2,E2⟩;have HN2:=hid (HN.out.ext E2);have HA:=hid A2;have HE:=hid E2;obtain⟨x0,x1,x2,x3,x4,fx⟩:=HN2.out.tk;have hl2:=HN2.out.lt;clear A2 E2 c0 c1 c2 c3 c4 fr HN hl;go_wp2_with fail;refine bodyPost_ret (v:=.tuple #[]) (by simp[results,results149]) rfl ⟨rfl,_,2,left,act,g',.inr (.inr rfl),.inr (.inr (.inr (.inl rfl))),HA.out.set0 HN2.out.2 1 _,HN2.out.set 1 _ rfl,(ExtB.of_ext HE.out).trans (ExtB.set 1 _)⟩
 |true =>
  have HC:=hid (show ¬M.clo=0 from λh0=>by rw[h0]at hbb;cases hbb);clear hbb;have HKC:=hid c0;go_upto_region 2 with fail;go_cut [] (λwx=>∃M' ac g',KpR P M M'/\qa6 g' wx a P M'/\NobR g' wx b 238 (TkC a ph left rest ac)/\ExtB b b g g' w wx)
  case first =>
   go_region_held3 (λW=>W.cell? ⟨b,0,none⟩=some (.pointer (some ⟨a,0,none⟩))) (first|(with_reducible exact HKC.out)|(with_reducible exact HSK)|(with_reducible exact HSK2)|go_keep) (first|(go_at_call 40;refine(qcr (H.out.below ?_)).mono ?_;exact(by with_reducible repeat(first|exact Below.refl _ _|assumption|refine Below.drew ?_|refine qa1 ?_ _|refine Below.alloc ?_ (by first|omega|simp <;> omega) _|refine Below.setCell ?_ (by first|omega|simp <;> omega) _));rintro e wd⟨rfl,he⟩;rw[he];clear he)|(go_at_call 32;refine(qek (H.out.below ?_)).mono ?_;exact(by with_reducible repeat(first|exact Below.refl _ _|assumption|refine Below.drew ?_|refine qa1 ?_ _|refine Below.alloc ?_ (by first|omega|simp <;> omega) _|refine Below.setCell ?_ (by first|omega|simp <;> omega) _));rintro e wd⟨rfl,he⟩;rw[he];clear he)|(go_at_call 146;refine(qCz (H.out.below ?_) HK.out HC.out).mono ?_;exact(by with_reducible repeat(first|exact Below.refl _ _|assumption|refine Below.drew ?_|refine qa1 ?_ _|refine Below.alloc ?_ (by first|omega|simp <;> omega) _|refine Below.setCell ?_ (by first|omega|simp <;> omega) _));rintro e w2⟨ac,M',rfl,hr,g',A2,E2⟩;have HR:=hid hr;have HA:=hid A2;have HE:=hid (Ext.trans (Ext.below (show Below w.heap.size w _ from(by with_reducible repeat(first|exact Below.refl _ _|assumption|refine Below.drew ?_|refine qa1 ?_ _|refine Below.alloc ?_ (by first|omega|simp <;> omega) _|refine Below.setCell ?_ (by first|omega|simp <;> omega) _)))) E2);have HN2:=hid (HN.out.ext HE.out);obtain⟨HSK,x1,x2,x3,x4,fx⟩:=HN2.out.tk;have HSK2:=(HN2.out.set 4 (.int .i64 ac) (cs':=TkC a ph left rest ac) rfl).tk.1;have hl2:=HN2.out.lt;clear hr A2 E2)|fail);all_goals
    go_wp2_with fail;go_meet;exact⟨M',ac,g',HR.out,HA.out.set0 HN2.out.2 4 _,HN2.out.set 4 _ rfl,(ExtB.of_ext HE.out).trans (ExtB.set 4 _)⟩
  obtain⟨M',ac,g',hr,A2,N2,E2⟩:=hcut;go_wp2_with fail;refine bodyPost_ret (v:=.tuple #[]) (by simp[results,results149]) rfl ⟨rfl,M',ph,left,ac,g',HP3.out,hr,A2,N2,E2⟩
theorem qCr(h:qa6 g w a P M)(hn:NobR g w b 238 (TkC a ph left rest act))(k:KPre P M)(hp3:Ph3 ph):Calls prog 150 #[.pointer (some ⟨b,0,none⟩)] w (qCh a b P M rest g w):=by
 have H:=hid h;have HN:=hid hn;have HK:=hid k;obtain⟨c0,c1,c2,c3,c4,fr⟩:=hn.tk;have hl:=hn.lt;have HP3:=hid hp3;clear h hn k hp3;go_enter func150,ntmps150;go_wp2_with fail;refine(qD0 H.out HK.out.bag HK.out.ow).mono ?_;rintro e w2⟨x,code,M',rfl,hr,g',A2,E2⟩;have HXV:=hid (show x.val=.agg #[.int .i64 x.line,.int .i64 x.cls,.int .u64 (x.r:Int),.int .u64 (x.d:Int),.int .i64 x.anti]from rfl);rw[HXV.out];have HR:=hid hr;have HN2:=hid (HN.out.ext E2);have HA2:=hid A2;have HE2:=hid E2;clear hr A2 E2 c0 c1 c2 c3 c4 fr HN H hl;go_upto_region 1 with fail;generalize hw3:World.alloc w2 _=w3;have b3:Below w2.heap.size w2 w3:=by rw[<-hw3];exact(Below.refl _ _).alloc (Nat.le_refl _) _
 have HN3:=hid (HN2.out.below b3);have HA3:=hid (HA2.out.below b3);have HE3:=hid (HE2.out.trans (Ext.below b3));obtain⟨x0,x1,x2,x3,x4,fx⟩:=HN3.out.tk;have hl3:=HN3.out.lt;clear hw3 b3 HN2 HA2 HE2;by_cases h12:code=12
 · have d1:(code==12)=true:=by rw[h12];rfl
   go_wp2_with fail;refine bodyPost_ret (v:=.tuple #[]) (by simp[results,results150]) rfl ⟨rfl,M',0,max rest 0,act,g',.inl rfl,.inr (.inr (.inr (.inr HR.out))),(HA3.out.set0 HN3.out.2 1 _).set0 HN3.out.2 2 _,(HN3.out.set 1 (.int .i64 0) rfl).set 2 _ rfl,(ExtB.of_ext HE3.out).trans ((ExtB.set 1 _).trans (ExtB.set 2 _))⟩
 · have d1:(code==12)=false:=by rw[beq_eq_false_iff_ne];exact h12
   clear h12;go_wp2_with fail;refine bodyPost_ret (v:=.tuple #[]) (by simp[results,results150]) rfl ⟨rfl,M',ph,left,act,g',HP3.out,.inr (.inr (.inr (.inr HR.out))),HA3.out,HN3.out,ExtB.of_ext HE3.out⟩
end
end
section
open Go.RowKit
theorem qFi:∃d,prog.underlying 82=some d/\d.isRow=true:=⟨_,underlying82,rfl⟩
theorem qF4:(prog.info? 82).map (·.size)=some 2:=by kernel_rfl
theorem qFj{fn:Func}{p t:Tmp}(h:fn.results=#[.cell p 82,.tmp t])(tmps:Array Value)(w:World)(b:Nat)(x y:Value)(v:Value)(hp:tmps.getD p undef=.pointer (some ⟨b,0,none⟩))(ht:tmps.getD t undef=v)
 (hb:w.heap[b]? =some (.cells #[x,y] 82 (0,0))):(results fn tmps).run prog w=.ok (.tuple #[.agg #[x,y],v]) w:=by
 obtain⟨d,h1,h2⟩:=qFi;rw[qdp h tmps w b [x,y] d hp (qb5 hb) h1 h2 qF4,ht]
section
variable {g:Own8}{w:World}{a b:Nat}{P:qag}{M:qa4}
theorem qF0(n:Nat)(hn:n<3){ph left rest act:Int}(h:qa6 g w a P M)(hnb:NobR g w b 238 (TkC a ph left rest act))(k:KPre P M)(hp3:Ph3 ph):Calls prog (kpN n) #[.pointer (some ⟨b,0,none⟩)] w (qCh a b P M rest g w):=by
 rcases(by omega:n=0\/n=1\/n=2)with rfl|rfl|rfl
 · exact qD3 h hnb k hp3
 · exact qD4 h hnb k hp3
 · exact qCr h hnb k hp3
def qEv(a:Nat)(P:qag)(M:qa4)(g:Own8)(w:World)(e:Ending)(w':World):Prop:=∃(ph left act:Int) (M':qa4),e=.returned (.tuple #[.agg #[.int .i64 ph,.int .i64 left],.int .i64 act])/\Ph3 ph/\KpR P M M'/\ATo g w w' a P M'
theorem qE5(h:qa6 g w a P M)(k:KPre P M)(n:Nat)(hn:n<3)(left rest:Int):Calls prog 83 #[.pointer (some ⟨a,0,none⟩),.agg #[.int .i64 (n:Int),.int .i64 left],.int .i64 rest] w (qEv a P M g w):=by
 have H:=hid h;have HK:=hid k;have HP3:=hid (show Ph3 (n:Int)by unfold Ph3;omega);have HN:=hid hn;clear h k hn;go_enter func83,ntmps83;go_upto_region 2 with fail;generalize hw1:World.alloc _ _=w1;obtain⟨b,hb⟩:∃b,b=w.heap.size+2:=⟨_,rfl⟩;have b1:Below w.heap.size w w1:=by rw[<-hw1];exact(((Below.refl _ _).alloc (Nat.le_refl _) _).alloc (by simp) _).alloc (by simp;omega) _
 have K1:NobR g w1 w.heap.size 82 [.int .i64 (n:Int),.int .i64 left]:=⟨by rw[<-hw1];exact(Below.heap_alloc _ _ _ (by simp;omega)).trans ((Below.heap_alloc _ _ _ (by simp)).trans (qaq _ _)),H.out.far _ (Nat.le_refl _)⟩;have R1:NobR g w1 (w.heap.size+1) 82 [.int .i64 0,.int .i64 0]:=⟨by rw[<-hw1];exact(Below.heap_alloc _ _ _ (by simp)).trans ((qa2 _ _ _).trans (if_pos (by simp))),H.out.far _ (Nat.le_succ _)⟩;have T1:NobR g w1 b 238 (TkC a n left rest 0):=⟨by rw[<-hw1,hb];exact(qa2 _ _ _).trans (if_pos (by simp)),H.out.far _ (by omega)⟩;have H1:=hid (H.out.below b1);have HE1:=hid (Ext.below (g:=g) b1);have HT1:=hid T1;have HR1:=hid R1;have k0:w1.cell? ⟨w.heap.size,0,none⟩=some (.int .i64 (n:Int)):=(cell_of_row w1 _ 0 _ _ _ K1.1).trans rfl;have hl0:=K1.lt;have HBB:=hid hb;rw[show w.heap.size+1+1=b from hb.symm];clear hw1 b1 K1 R1 T1 hb;go_cut [9,10] (λv9 v10 wx=>v9=kpV b n/\v10=.bool true/\Below w1.heap.size w1 wx)
 case first =>
  go_region_held3 (λW=>W.cell? ⟨w.heap.size,0,none⟩=some (.int .i64 (n:Int))) (first|(with_reducible exact k0)|(with_reducible exact HSK)|go_keep) (first|(go_at_call 114;refine(qD8 _ b).mono ?_;rintro e w5⟨r,rfl,m5,b5⟩;have HSK:=(b5.cell (p:=⟨w.heap.size,0,none⟩) hl0).trans k0;have HLK:=qF5 m5 HN.out;have HB5:=hid b5;clear m5 b5));all_goals
   go_wp2_with fail;go_meet;exact⟨rfl,rfl,(Below.refl w1.heap.size w1).drew.trans HB5.out⟩
 obtain⟨rfl,rfl,bc⟩:=hcut;obtain⟨w3,hw3⟩:∃x,x=wc:=⟨_,rfl⟩;subst hw3;have HA3:=hid (H1.out.below bc);have HT3:=hid (HT1.out.below bc);have HR3:=hid (HR1.out.below bc);have HE3:=hid (HE1.out.trans (Ext.below bc));have HZ:=hid bc.size;have TT:=hid (qF0 n HN.out HA3.out HT3.out HK.out HP3.out);clear bc k0 hl0 H1 HT1 HR1 HE1;have hn:=HN.out;clear HN;rcases(by omega:n=0\/n=1\/n=2)with rfl|rfl|rfl
 all_goals
  clear hn;simp only[kpV,kpN];go_wp2_with fail;refine TT.out.mono ?_;rintro e w5⟨rfl,M',ph',left',act',g',hp',hr',A5,T5,E5⟩;have HP5:=hid hp';have HRR:=hid hr';have hbb:=HBB.out;have HE5:=hid (ExtB.ext HE3.out E5 (by omega) (by omega));have hlr:=HR3.out.lt;have R5:NobR g' w5 (w.heap.size+1) 82 [.int .i64 0,.int .i64 0]:=⟨(E5.only.block _ hlr (by have:=HR3.out.2;show ¬(0<g _\/b<=_\/_=b);omega)).trans HR3.out.1,(E5.old _ hlr).trans HR3.out.2⟩;have HA5:=hid A5;have HR5:=hid R5;obtain⟨x0,x1,x2,x3,x4,fx⟩:=T5.tk;have hl5:=T5.lt;have r0:w5.cell? ⟨w.heap.size+1,0,none⟩=some (.int .i64 0):=(cell_of_row w5 _ 0 _ _ _ R5.1).trans rfl;have r1:w5.cell? ⟨w.heap.size+1,1,none⟩=some (.int .i64 0):=(cell_of_row w5 _ 1 _ _ _ R5.1).trans rfl;have f0:=frozen_of_row w5 _ 0 _ _ R5.1;have f1:=frozen_of_row w5 _ 1 _ _ R5.1;have hlr5:=R5.lt;clear hp' hr' A5 T5 E5 R5 TT HR3 HT3 HA3 HE3 hlr hbb;go_upto_region 5 with fail;go_region;all_goals
   go_wp2_with fail;have R6:=(HR5.out.set 0 (.int .i64 ph') (cs':=[.int .i64 ph',.int .i64 0]) rfl).set 1 (.int .i64 left') (cs':=[.int .i64 ph',.int .i64 left']) rfl;refine bodyPost_ret (v:=.tuple #[.agg #[.int .i64 ph',.int .i64 left'],.int .i64 act']) (qFj results83 _ _ (w.heap.size+1) _ _ _ (by simp) (by simp) R6.1) rfl ⟨ph',left',act',M',rfl,HP5.out,HRR.out,g',?_,?_⟩
   · exact((HA5.out.set0 HR5.out.2 0 (.int .i64 ph')).set0 HR5.out.2 1 (.int .i64 left')).below (Below.refl _ _).drew
   · exact((HE5.out.setNew (Nat.le_succ _) 0 (.int .i64 ph')).setNew (Nat.le_succ _) 1 (.int .i64 left')).trans (Ext.below (Below.refl _ _).drew)
end
end
section
open Go.RowKit
section
variable {g:Own8}{w:World}{wb a:Nat}{P:qag}{M:qa4}{c:CfgC}{T:List ThrC}{D:Nat->FrD}{steps:Int}{sA:Option Addr}{sc:Nat}{S:List qap}
def qFp(P:qag)(c:CfgC)(M:qa4)(T:List ThrC)(D:Nat->FrD)(S:List qap)(_:Int)(c':CfgC)(M':qa4)(T':List ThrC)(D':Nat->FrD)(S':List qap):Prop:=(∃ph left st,Ph3 ph/\c'= {c with ph:=ph,left:=left,st:=st})/\KpR P M M'/\T'=T/\D'=D/\S'=S
theorem WAt.heads(h:WAt g w wb a P M c T D steps sA sc S):w.cell? ⟨wb,4,none⟩=some (.pointer (some ⟨a,0,none⟩))/\w.cell? ⟨wb,6,none⟩=some (.int .i64 c.ph)/\w.cell? ⟨wb,7,none⟩=some (.int .i64 c.left)/\w.cell? ⟨wb,2,none⟩=some (.int .i64 c.rest):=
 ⟨h.bx.head 4 (by omega) rfl,h.bx.head 6 (by omega) rfl,h.bx.head 7 (by omega) rfl,h.bx.head 2 (by omega) rfl⟩
theorem qFk{W W':World}{n wb:Nat}{v0 v1 v2 v3:Value}(hb:Below n W W')(hl:wb<n)(h:W.cell? ⟨wb,4,none⟩=some v0/\W.cell? ⟨wb,6,none⟩=some v1/\W.cell? ⟨wb,7,none⟩=some v2/\W.cell? ⟨wb,2,none⟩=some v3):W'.cell? ⟨wb,4,none⟩=some v0/\W'.cell? ⟨wb,6,none⟩=some v1/\W'.cell? ⟨wb,7,none⟩=some v2/\W'.cell? ⟨wb,2,none⟩=some v3:=
 ⟨(hb.cell (p:=⟨wb,4,none⟩) hl).trans h.1,(hb.cell (p:=⟨wb,6,none⟩) hl).trans h.2.1,(hb.cell (p:=⟨wb,7,none⟩) hl).trans h.2.2.1,(hb.cell (p:=⟨wb,2,none⟩) hl).trans h.2.2.2⟩
theorem qDz(h:WAt g w wb a P M c T D steps sA sc S)(hk:KPre P M)(hp:Ph3 c.ph)(k t l:Int)(cl:qa7)(kA:Option Addr)(kn kc:Nat):
 Calls prog 55 #[.pointer (some ⟨wb,0,none⟩),.agg (evL k t l cl kA kn kc).toArray] w (qo9 (qFp P c M T D S) wb a P steps (qa8 sA sc) g w):=by
 obtain⟨n,hn,hph⟩:∃n:Nat,n<3/\c.ph=(n:Int):=by
  rcases hp with h0|h0|h0
  · exact⟨0,by omega,h0⟩
  · exact⟨1,by omega,h0⟩
  · exact⟨2,by omega,h0⟩
 have H:=hid h;have HK:=hid hk;have HN:=hid hn;have HPH:=hid hph;clear h hk hp hn hph;unfold evL;go_enter func55,ntmps55;go_upto_region 1 with fail;generalize hw1:World.alloc _ _=w1;have b1:Below w.heap.size w w1:=by rw[<-hw1];exact(Below.refl _ _).alloc (Nat.le_refl _) _
 have H1:=hid (H.out.below b1);have HK1:=hid (qaz.below (g:=g) (wb:=wb) (r:=qa8 sA sc) b1);clear hw1 b1 H;have HH:=hid H1.out.heads;obtain⟨c4,c6,c7,c2⟩:=H1.out.heads;rw[HPH.out]at c6;have hl:=H1.out.bx.lt;go_upto_region 3 with fail;have HS:=hid (And.intro c4 (And.intro c6 (And.intro c7 c2)));have Z0:∀W:World,(W.alloc (.cells #[.int .i64 0,.int .i64 0] 82)).cell? ⟨W.heap.size,0,none⟩=some (.int .i64 0):=λW=>(cell_of_row _ _ 0 _ _ _ (qaq W _)).trans rfl
 have Z1:∀W:World,(W.alloc (.cells #[.int .i64 0,.int .i64 0] 82)).cell? ⟨W.heap.size,1,none⟩=some (.int .i64 0):=λW=>(cell_of_row _ _ 1 _ _ _ (qaq W _)).trans rfl
 have ZF:∀(W:World) (o:Nat),(W.alloc (.cells #[.int .i64 0,.int .i64 0] 82)).frozen? ⟨W.heap.size,o,none⟩=false:=λW o=>frozen_of_row _ _ o _ _ (qaq W _)
 go_cut [5,6] (λv5 v6 wx=>∃kb ph left act M' g',v5=.pointer (some ⟨kb,0,none⟩)/\v6=.int .i64 act/\Ph3 ph/\KpR P M M'/\NobR g' wx kb 82 [.int .i64 ph,.int .i64 left]/\WAt g' wx wb a P M' c T D steps sA sc S/\qaz g w wb (qa8 sA sc) g' wx (qa8 sA sc)/\kb≠wb)
 case first =>
  go_region_held3 (λW=>W.cell? ⟨wb,4,none⟩=some (.pointer (some ⟨a,0,none⟩))/\W.cell? ⟨wb,6,none⟩=some (.int .i64 (n:Int))/\W.cell? ⟨wb,7,none⟩=some (.int .i64 c.left)/\W.cell? ⟨wb,2,none⟩=some (.int .i64 c.rest)) (first|(with_reducible exact HS.out)|(with_reducible exact HSK)|(with_reducible refine qFk (n:=w1.heap.size) (W:=w2) ?_ hl HSK;exact(by with_reducible repeat(first|exact Below.refl _ _|assumption|refine Below.drew ?_|refine qa1 ?_ _|refine Below.alloc ?_ (by first|omega|simp <;> omega) _|refine Below.setCell ?_ (by first|omega|simp <;> omega) _));done)|go_keep) (first|(go_at_call 83;refine(qE5 (H1.out.ar.below ?_) HK.out n HN.out c.left c.rest).mono ?_;exact(by with_reducible repeat(first|exact Below.refl _ _|assumption|refine Below.drew ?_|refine qa1 ?_ _|refine Below.alloc ?_ (by first|omega|simp <;> omega) _|refine Below.setCell ?_ (by first|omega|simp <;> omega) _));rintro e w2⟨ph',left',act',M',rfl,hp',hr',g',A2,E2⟩;have HE2:=hid (Ext.trans (Ext.below (show Below w1.heap.size w1 _ from(by with_reducible repeat(first|exact Below.refl _ _|assumption|refine Below.drew ?_|refine qa1 ?_ _|refine Below.alloc ?_ (by first|omega|simp <;> omega) _|refine Below.setCell ?_ (by first|omega|simp <;> omega) _)))) E2);have HA2:=hid A2;have hz2:w1.heap.size<=w2.heap.size:=(Ext.trans (Ext.below (show Below w1.heap.size w1 _ from(by with_reducible repeat(first|exact Below.refl _ _|assumption|refine Below.drew ?_|refine qa1 ?_ _|refine Below.alloc ?_ (by first|omega|simp <;> omega) _|refine Below.setCell ?_ (by first|omega|simp <;> omega) _)))) E2).only.size;have HP2:=hid hp';have HR2:=hid hr';have HSK:=(H1.out.ext A2 HE2.out).heads;rw[HPH.out]at HSK;first|(have XN:=hid (NobR.ext (g:=g) (w:=World.alloc (World.drew w1) _) (b:=w1.heap.size) (t:=82) (cs:=[.int .i64 0,.int .i64 0]) ⟨qaq _ _,H1.out.ar.far _ (Nat.le_refl _)⟩ E2);have y0:=(cell_of_row w2 _ 0 _ _ _ XN.out.1).trans rfl;have y1:=(cell_of_row w2 _ 1 _ _ _ XN.out.1).trans rfl;have yf:=λo=>frozen_of_row w2 _ o _ _ XN.out.1;have yl:=XN.out.lt)|skip;clear hp' hr' A2 E2)|fail);all_goals
   go_wp2_with fail;go_meet;first
    |exact⟨w2.heap.size,ph',left',act',M',g',rfl,rfl,HP2.out,HR2.out,⟨qaq _ _,HA2.out.far _ (Nat.le_refl _)⟩,H1.out.ext (HA2.out.below ((Below.refl _ _).alloc (Nat.le_refl _) _)) (HE2.out.trans (Ext.below ((Below.refl _ _).alloc (Nat.le_refl _) _))),HK1.out.trans (qaz.ext (HE2.out.trans (Ext.below ((Below.refl _ _).alloc (Nat.le_refl _) _)))),by omega⟩
    |exact⟨w1.heap.size,ph',left',act',M',g',rfl,rfl,HP2.out,HR2.out,(XN.out.set 0 (.int .i64 ph') (cs':=[.int .i64 ph',.int .i64 0]) rfl).set 1 (.int .i64 left') rfl,H1.out.ext ((HA2.out.set0 XN.out.2 0 _).set0 XN.out.2 1 _) ((HE2.out.setNew (Nat.le_refl _) 0 _).setNew (Nat.le_refl _) 1 _),HK1.out.trans (qaz.ext ((HE2.out.setNew (Nat.le_refl _) 0 _).setNew (Nat.le_refl _) 1 _)),by omega⟩
 obtain⟨kb,ph,left,act,M',g',rfl,rfl,hp,hr,N3,W3,K3,hkb⟩:=hcut;obtain⟨w3,hw3⟩:∃x,x=wc:=⟨_,rfl⟩;subst hw3;have HP:=hid hp;have HR:=hid hr;have HW:=hid W3;have HK3:=hid K3;have y0:w3.cell? ⟨kb,0,none⟩=some (.int .i64 ph):=(cell_of_row w3 _ 0 _ _ _ N3.1).trans rfl;have y1:w3.cell? ⟨kb,1,none⟩=some (.int .i64 left):=(cell_of_row w3 _ 1 _ _ _ N3.1).trans rfl;have yl:=N3.lt;obtain⟨x4,x6,x7,x2⟩:=W3.heads;have xf:=W3.bx.fr;have xl:=W3.bx.lt;clear hp hr N3 W3 K3 HS HH c4 c6 c7 c2 hl H1 HK1 Z0 Z1 ZF;go_upto_region 5 with fail;have W5:=HW.out.setKeep ph left;have K5:qaz g' w3 wb (qa8 sA sc) g' ((w3.setCell ⟨wb,6,none⟩ (.int .i64 ph)).setCell ⟨wb,7,none⟩ (.int .i64 left)) (qa8 sA sc):=(qaz.cellB _ _ _ _ _ _).trans (qaz.cellB _ _ _ _ _ _);generalize World.setCell (World.setCell w3 _ _) _ _=w5 at W5 K5 ⊢;have TA:=hid (qCm W5.bx act);have HW5:=hid W5;have HK5:=hid (HK3.out.trans K5);clear W5 K5 x4 x6 x7 x2 xf xl y0 y1 yl HW HK3;go_wp2_with fail;refine TA.out.mono ?_;rintro e w6⟨rfl,st,X6,o6,k6⟩;have HW6:=hid (HW5.out.rebox o6 k6 X6 HW5.out.thr);have HK6:=hid (HK5.out.trans (qaz.box o6 k6));clear X6 o6 k6 TA;go_wp2_with fail;go_ret;exact⟨0,rfl,g',_,M',T,D,sA,sc,S,⟨⟨ph,left,st,HP.out,rfl⟩,HR.out,rfl,rfl,rfl⟩,HW6.out,HK6.out⟩
end
end
end Go.Proofs.YtecikkjbnkhhkaaGreat
