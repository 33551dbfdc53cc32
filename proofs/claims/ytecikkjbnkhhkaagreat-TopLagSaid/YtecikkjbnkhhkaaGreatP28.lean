/- A part of the walk. -/
import Derived.Test.YtecikkjbnkhhkaaGreatP25
import Derived.Test.YtecikkjbnkhhkaaGreatP27
namespace Go.Proofs.YtecikkjbnkhhkaaGreat
open _root_.Go.Proofs.Tryz
set_option maxHeartbeats 8000000
set_option maxRecDepth 1000000
section
open Go.RowKit
def NobR(g:Own8)(w:World)(b:Nat)(t:TypeId)(cs:List Value):Prop:=w.heap[b]? =some (.cells cs.toArray t (0,0))/\g b=0
theorem NobR.lt{g:Own8}{w:World}{b:Nat}{t:TypeId}{cs:List Value}(h:NobR g w b t cs):b<w.heap.size:=qa0 h.1
theorem NobR.ext{g g':Own8}{w w':World}{b:Nat}{t:TypeId}{cs:List Value}(h:NobR g w b t cs)(e:Ext g g' w w'):NobR g' w' b t cs:=⟨(e.nobody h.lt h.2).trans h.1,(e.old b h.lt).trans h.2⟩
theorem NobR.below{g:Own8}{w w':World}{b:Nat}{t:TypeId}{cs:List Value}(h:NobR g w b t cs)(e:Below w.heap.size w w'):NobR g w' b t cs:=h.ext (Ext.below e)
theorem ATo.below{g:Own8}{w w1 w':World}{a:Nat}{P:qag}{M':qa4}(hb:Below w.heap.size w w1)(h:ATo g w1 w' a P M'):ATo g w w' a P M':=ATo.trans (Ext.below hb) h
theorem NobR.set{g:Own8}{w:World}{b:Nat}{t:TypeId}{cs:List Value}(h:NobR g w b t cs)(k:Nat)(v:Value){cs':List Value}(he:cs.set k v=cs'):NobR g (w.setCell ⟨b,k,none⟩ v) b t cs':=⟨by rw[<-he];exact qay h.1 k v,h.2⟩
theorem NobR.other{g:Own8}{w:World}{b c:Nat}{t:TypeId}{cs:List Value}(h:NobR g w b t cs)(hne:b≠c)(k:Nat)(v:Value):NobR g (w.setCell ⟨c,k,none⟩ v) b t cs:=⟨(Below.heap_setCell _ _ _ _ hne).trans h.1,h.2⟩
theorem Ext.setNew{g g':Own8}{w w':World}(h:Ext g g' w w'){b:Nat}(hb:w.heap.size<=b)(o:Nat)(v:Value):Ext g g' w (w'.setCell ⟨b,o,none⟩ v):=
 ⟨h.old,⟨h.only.os,h.only.tape,h.only.output,by rw[World.size_setCell];exact h.only.size,λj hj hn=>(Below.heap_setCell _ _ _ _ (by show j≠b;omega)).trans (h.only.block j hj hn)⟩⟩
theorem qr8{w:World}{vb:Nat}{x:EffC}(hv:w.heap[vb]? =some (.cells x.enc.toArray 70 (0,0))):Arr EffC.enc 7 w w.heap.size (some ⟨vb,0,none⟩) [x]:=by
 refine Arr.of_cells EffC.enc_len ?_ λj u hu=>?_
 · exact qa0 hv
 · rw[Nat.zero_add,cell_of_row w vb j _ _ _ hv,List.getElem?_toArray]
   simpa using hu
def qdk(x:ChgC):Bool:=x.kind==4||(x.kind==2&& !x.had)
def chId(M:qa4)(x:ChgC):Nat:=if qdk x=true then M.id+1 else x.old.id
def qkj(M:qa4)(x:ChgC):Nat:=if qdk x=true then M.id+1 else M.id
def qda(M:qa4)(x:ChgC)(e:Nat):BlkC:=qca x (chId M x) (M.ver+1) e
def qcj(M:qa4)(x:ChgC)(e:Nat):qa3:=⟨(qda M x e).key,chId M x,M.ver+1,x.line,(qda M x e).cls⟩
def qnc(l:List Bool)(q:Nat):Nat->List Bool
 |0=>l
 |n+1=>(qnc l q n).set (q+n) true
def chT(M:qa4)(x:ChgC)(e:Nat):Nat->List qa3:=
 if x.kind=2 then updB M.T (bucket (qcj M x e).key) (setM (M.T (bucket (qcj M x e).key)) (qcj M x e))else if x.kind=3 then updB M.T (bucket x.key) (delM (M.T (bucket x.key)) x.key)else M.T
def chO(M:qa4)(x:ChgC)(e:Nat):List qa3:=if x.kind=2 then setL M.O (qcj M x e)else if x.kind=3 then qd9 M.O x.key else M.O
def chQ(M:qa4)(x:ChgC)(e:Nat):List qa3:=if x.kind=4 then M.Q++[qcj M x e]else if x.kind=5 then M.Q.tail else M.Q
def chQn(M:qa4)(x:ChgC):Nat:=if x.kind=4 then max M.qn (M.Q.length+1)else M.qn
def qdx(x:ChgC):Int:=if x.kind=3\/x.kind=5 then x.line else -1
def qqy(M:qa4)(x:ChgC)(e:Nat):List EntC:=if (x.had&&(x.kind != 4))=true then putE M.bag ⟨x.old.line,x.old.cls,M.rnow,e,qdx x⟩else M.bag
def qel(M:qa4)(grp:Nat):Nat:=if grp=0 then M.ver+1 else grp
def qx0(M:qa4)(x:ChgC)(e grp:Nat):EffC:=⟨if x.kind=2 then 1 else if x.kind=3 then 2 else if x.kind=4 then 3 else 4,if x.kind=2\/x.kind=3 then x.key else ByteArray.empty,(qda M x e).val,chId M x,M.ver+1,e,(qel M grp:Nat)⟩
def chD(M:qa4)(x:ChgC)(e n:Nat):List qab:=if h:n<M.D.length then M.D.set n (M.D[n].over 0 ((encB (qda M x e)).take 64))else M.D
def chM(M:qa4)(x:ChgC)(e grp n:Nat)(owed':List Int)(eA:Option Addr)(ec:Nat):qa4:=
 {M with D:=chD M x e n,owed:=owed',noted:=qnc M.noted n (qa9 (qda M x e).cls),bag:=qqy M x e,T:=chT M x e,O:=chO M x e,Q:=chQ M x e,qn:=chQn M x,id:=qkj M x,ver:=M.ver+1,E:=M.E++[qx0 M x e grp],eA:=eA,ec:=ec}
structure qml(M:qa4)(t e n:Nat)(x:ChgC):Prop where
 ht:t<M.owed.length
 line:x.line=(n:Int)
 hn:n<M.D.length
 span:n+qa9 (qda M x e).cls<=M.D.length
 may:mayB (qda M x e)=true
 kind:qbw x=true
 key:x.key.size<=1000000
 few:Few M 50000
 rise:Rise M.O
 id:M.id<=1000000
 ver:M.ver<=1000000
 pop:x.kind=5->¬M.Q=[]
def right:Code->Code
 | .seq _ b=>b
 |c=>c
noncomputable def chB:Code:=right (right (right (right (right (right (right (right (right (Tryz.f309.body.getD .skip)))))))))
noncomputable def chC:Code:=right (right (right (right chB)))
section
variable {g:Own8}{w:World}{a:Nat}{P:qag}{M:qa4}
def qod(a:Nat)(P:qag)(M:qa4)(x:ChgC)(e grp n:Nat)(g:Own8)(w:World)(r:Ending)(w':World):Prop:=r=.returned (.int .u64 ((M.ver+1:Nat):Int))/\∃owed' eA ec,owed'.length=M.owed.length/\ATo g w w' a P (chM M x e grp n owed' eA ec)
structure qBg(a:Nat)(P:qag)(M:qa4)(t e grp n:Nat)(x:ChgC)(ver id gr vb yb:Nat)(y:BlkC)(owed':List Int)(g:Own8)(w:World)(g10:Own8)(w10:World)(M10:qa4):Prop where
 pre:qml M t e n x
 hg:grp<=1000000
 hver:ver=M.ver+1
 hid:id=chId M x
 hgr:gr=qel M grp
 hy:y=qda M x e
 how:owed'.length=M.owed.length
 hM:M10= {M with id:=qkj M x,ver:=M.ver+1,D:=chD M x e n,owed:=owed',noted:=qnc M.noted n (qa9 (qda M x e).cls)}
 ar:qa6 g10 w10 a P M10
 xr:NobR g10 w10 vb 376 x.enc
 yr:NobR g10 w10 yb 203 y.enc
 ext:Ext g g10 w w10
structure qBh(a:Nat)(P:qag)(M:qa4)(t e grp n:Nat)(x:ChgC)(ver vb kb:Nat)(an:Int)(f1:EffC)(owed':List Int)(g:Own8)(w:World)(g16:Own8)(w16:World)(M14:qa4):Prop where
 pre:qml M t e n x
 hver:ver=M.ver+1
 how:owed'.length=M.owed.length
 han:an=qdx x
 hf:f1=qx0 M x e grp
 hM:M14= {M with id:=qkj M x,ver:=M.ver+1,D:=chD M x e n,owed:=owed',noted:=qnc M.noted n (qa9 (qda M x e).cls),T:=chT M x e,O:=chO M x e,Q:=chQ M x e,qn:=chQn M x}
 ar:qa6 g16 w16 a P M14
 xr:NobR g16 w16 vb 376 x.enc
 fr:NobR g16 w16 (kb+1) 70 f1.enc
 ext:Ext g g16 w w16
theorem qwx{t e grp n ver gr vb kb:Nat}{an:Int}{x:ChgC}{f1:EffC}{owed':List Int}{g16:Own8}{w16:World}{M14:qa4}{u5 u6 u7 u9 u12 u13 u14 u15 u16 u17 u20 u21 u22 u23 u24 u25 u26 u27 u28 u29 u30 u31 u32 u33 u34 u35 u36 u37 u38 u39 u40 u41 u42 u43 u44 u45 u46 u47 u48 u49 u50 u51 u52 u53 u54 u55 u56 u57 u58 u59 u60 u61 u62 u63 u64 u65 u66 u67 u68 u69 u70 u71 u72 u73 u74 u75 u76 u77 u78 u79 u80 u81 u82 u83 u84 u85 u86 u87 u88 u89 u90 u91 u92 u93 u94 u95 u96 u97 u98 u99 u100 u101 u102 u103 u104 u105 u106 u107 u108 u109 u110 u111 u112 u113 u114 u115 u116 u117 u118 u119 u120 u121 u122 u123 u124 u125 u126 u127 u128 u129 u130 u131 u132 u133 u134 u135 u136 u137 u138 u139 u140 u141 u142 u143 u144 u145 u146 u147 u148 u149 u150 u151 u152 u153 u154 u155 u156 u157 u158 u159 u160 u161 u162 u163 u164 u165 u166 u167 u168 u169 u170 u171 u172 u173 u174 u175 u176 u177 u178 u179 u180 u181 u182 u183 u184 u185 u186 u187 u188 u189 u190 u191 u192 u193 u194:Value}(h:qBh a P M t e grp n x ver vb kb an f1 owed' g w g16 w16 M14):
 Code.wp prog chC (bodyPost prog Tryz.f309 (qod a P M x e grp n g w)) ⟨((Value.pointer (some ⟨a,0,none⟩))::(Value.int .i64 (t:Int))::(Value.int .u64 (e:Int))::x.v::(Value.int .u64 (gr:Int))::u5::u6::u7::(Value.pointer (some ⟨vb,0,none⟩))::u9::(Value.int .u64 0)::(Value.int .u64 (ver:Int))::u12::u13::u14::u15::u16::u17::(Value.pointer (some ⟨kb+1,0,none⟩))::(Value.int .i64 an)::u20::u21::u22::u23::u24::u25::u26::u27::u28::u29::u30::u31::u32::u33::u34::u35::u36::u37::u38::u39::u40::u41::u42::u43::u44::u45::u46::u47::u48::u49::u50::u51::u52::u53::u54::u55::u56::u57::u58::u59::u60::u61::u62::u63::u64::u65::u66::u67::u68::u69::u70::u71::u72::u73::u74::u75::u76::u77::u78::u79::u80::u81::u82::u83::u84::u85::u86::u87::u88::u89::u90::u91::u92::u93::u94::u95::u96::u97::u98::u99::u100::u101::u102::u103::u104::u105::u106::u107::u108::u109::u110::u111::u112::u113::u114::u115::u116::u117::u118::u119::u120::u121::u122::u123::u124::u125::u126::u127::u128::u129::u130::u131::u132::u133::u134::u135::u136::u137::u138::u139::u140::u141::u142::u143::u144::u145::u146::u147::u148::u149::u150::u151::u152::u153::u154::u155::u156::u157::u158::u159::u160::u161::u162::u163::u164::u165::u166::u167::u168::u169::u170::u171::u172::u173::u174::u175::u176::u177::u178::u179::u180::u181::u182::u183::u184::u185::u186::u187::u188::u189::u190::u191::u192::u193::u194::[]).toArray,[]⟩ w16:=by
 have HP:=hid h.pre;have HVER:=hid h.hver;have HOLF:=hid h.how;have HAN:=hid h.han;have HF1:=hid h.hf;have HM14:=hid h.hM;have HA16:=hid h.ar;have HN16:=hid h.xr;have HF16:=hid h.fr;have HE16:=hid h.ext;have HB14:=hid (show M14.bag=M.bag by rw[h.hM]);have HR14:=hid (show M14.rnow=M.rnow by rw[h.hM]);have hnD:=h.pre.hn;obtain⟨M17,hM17⟩:∃M17:qa4,M17= {M14 with bag:=qqy M x e}:=⟨_,rfl⟩;have HM17:=hid hM17;have HEL14:=hid (show M17.E=M.E/\M17.eA=M.eA/\M17.ec=M.ec by rw[hM17,h.hM];exact⟨rfl,rfl,rfl⟩);clear h hM17;have hXV:=x.v_eq;rw[hXV];clear hXV;obtain⟨c0,c1,c2,c3,c4,c5,c6,c7,c8,c9,cA⟩:=ChgC.cells HN16.out.1;have hl0:=HN16.out.lt;conv=>arg 2;whnf
 go_upto_region 33 with fail;go_cut [164] (λv164 wx=>v164=.bool (x.had&&(x.kind != 4))/\wx=w16)
 case first =>
  rcases Bool.eq_false_or_eq_true x.had with hh|hh
  · rw[hh]at c3
    have HH:=hid hh;clear hh;go_wp2_with fail;go_meet;exact⟨by rw[HH.out];rfl,rfl⟩
  · rw[hh]at c3
    have HH:=hid hh;clear hh;go_wp2_with fail;go_meet;exact⟨by rw[HH.out];rfl,rfl⟩
 obtain⟨rfl,hwc⟩:=hcut;rw[hwc];clear hwc;go_upto_if 164 with fail;go_cut [] (λwx=>∃g4,qa6 g4 wx a P M17/\Ext g g4 w wx/\NobR g4 wx (kb+1) 70 f1.enc)
 case first =>
  cases hcn:(x.had&&(x.kind != 4))with
  |false =>
   have HB:=hid (show M17=M14 by rw[HM17.out,qqy,if_neg (by rw[hcn];decide),<-HB14.out]);clear hcn;go_wp2_with fail;go_meet;exact⟨g16,by rw[HB.out];exact HA16.out,HE16.out,HF16.out⟩
  |true =>
   have HB:=hid (show M17= {M14 with bag:=putE M14.bag ⟨x.old.line,x.old.cls,M14.rnow,e,an⟩}by rw[HM17.out,qqy,if_pos hcn,<-HB14.out,<-HR14.out,HAN.out]);clear hcn;have q4:=HA16.out.cells.2.2.2.2.1;have q2:=HA16.out.cells.2.2.1;have hla:=qa0 HA16.out.box.1;have b17:Below w16.heap.size w16 w16.drew:=(Below.refl _ _).drew;have HF17:=hid (HF16.out.below b17);have HA17:=hid (HA16.out.below b17);have HE17:=hid (HE16.out.trans (Ext.below b17));have TN:=hid (qu4 HA17.out);go_upto_region 34 with fail;go_still_tail 18,(by kernel_rfl);still_call TN.out;repeat still_step
   refine wpStill_nil ?_;change wpList _ _ _ _ _ (World.drew w16);generalize hw17:World.drew w16=w17 at *;clear hw17 b17 q4 q2 hla c0 c1 c2 c3 c4 c5 c6 c7 c8 c9 cA hl0 HF16 HA16 HE16 HN16;go_wp2_with fail;have TB:=qo8 HA17.out ⟨x.old.line,x.old.cls,M14.rnow,e,an⟩;rw[show(⟨x.old.line,x.old.cls,M14.rnow,e,an⟩:EntC).val=.agg #[.int .i64 x.old.line,.int .i64 x.old.cls,.int .u64 (M14.rnow:Int),.int .u64 (e:Int),.int .i64 an]from rfl]at TB;refine TB.mono ?_;rintro r w18⟨⟨v,rfl⟩,g18,A18,E18⟩;have HF18:=hid (HF17.out.ext E18);have HA18:=hid A18;have HE18:=hid (HE17.out.trans E18);clear TB A18 E18 HF17 HA17 HE17;go_wp2_with fail;go_meet;exact⟨g18,by rw[HB.out];exact HA18.out,HE18.out,HF18.out⟩
 obtain⟨g19,A19,E19,F19⟩:=hcut;obtain⟨w19,hw19⟩:∃x,x=wc:=⟨_,rfl⟩;subst hw19;have HF19:=hid F19;have HA19:=hid A19;have HE19:=hid E19;clear A19 E19 F19 c0 c1 c2 c3 c4 c5 c6 c7 c8 c9 cA hl0 HF16 HN16 HA16 HE16;have hlE:M.E.length<=50000:=HP.out.few.e;have hlE17:M17.E.length<=50000:=by rw[HEL14.out.1];exact hlE
 have qA:=HA19.out.cells.2.2.2.2.2.2.2.2.2.2;have fA:=frozen_of_row w19 a 10 _ _ HA19.out.box.1;have hla:=qa0 HA19.out.box.1;have z0:w19.cell? ⟨kb+1,0,none⟩=some (.int .i64 f1.kind):=cell_of_row w19 _ 0 _ _ _ HF19.out.1;have z1:w19.cell? ⟨kb+1,1,none⟩=some (.string f1.key):=cell_of_row w19 _ 1 _ _ _ HF19.out.1;have z2:w19.cell? ⟨kb+1,2,none⟩=some (.string f1.val):=cell_of_row w19 _ 2 _ _ _ HF19.out.1;have z3:w19.cell? ⟨kb+1,3,none⟩=some (.int .u64 (f1.id:Int)):=cell_of_row w19 _ 3 _ _ _ HF19.out.1;have z4:w19.cell? ⟨kb+1,4,none⟩=some (.int .u64 (f1.ver:Int)):=cell_of_row w19 _ 4 _ _ _ HF19.out.1;have z5:w19.cell? ⟨kb+1,5,none⟩=some (.int .u64 (f1.ep:Int)):=cell_of_row w19 _ 5 _ _ _ HF19.out.1;have z6:w19.cell? ⟨kb+1,6,none⟩=some (.int .i64 f1.grp):=cell_of_row w19 _ 6 _ _ _ HF19.out.1;have hlz:=HF19.out.lt;have HLE:=hid hlE17;obtain⟨i0,hi0,hz0,hz1,hz2⟩:=info_parts qp3;have HI:=hid hi0;have HZ0:=hid hz0;have HZ1:=hid hz1;have HZ2:=hid hz2;have HRW:=hid (HA19.out.eff.1.notBox HA19.out.box.1 (by decide));clear hi0 hz0 hz1 hz2 hlE hlE17;have HFIN:Hid (∀A' c',chM M x e grp n owed' A' c'= {M17 with E:=M17.E++[f1],eA:=A',ec:=c'}):=hid λA' c'=>by
  rw[HM17.out,HM14.out,chM,HF1.out]
 go_upto_region 35 with fail;go_region_law (refine qbe (l:=M17.E) (m:=[f1]) (A:=M17.eA) (c:=M17.ec) (lo:=0) _ rfl (.tmp 188) (.tmp 190) 59 rfl i0 _ 72 underlying59 HI.out HZ0.out HZ1.out HZ2.out rfl (by decide) EffC.enc_len EffC.enc_one (by simp[Act.eval]) (by first|exact HA19.out.eff.1.alloc _|exact HA19.out.eff.1.drew.alloc _|exact(HA19.out.eff.1.alloc _).drew) (A2:=some ⟨w19.heap.size,0,none⟩) 1 (by simp[Act.eval]) (qr8 (vb:=w19.heap.size) (x:=f1) (by first|(rw[qa2,if_pos (by simp)];rfl)|(show(World.alloc _ _).heap[_]? =_;rw[qa2,if_pos (by simp)];rfl))) (by have:=HLE.out;unfold maxLen;simp;omega) (by have:=HLE.out;simp;omega) (Nat.zero_le _) ?_;intro A' c' w20 hown hgr hloc;have B20:w20.heap[a]? =some (.cells (qje P M17.id M17.ver M17.eA M17.E.length M17.ec).toArray 127 (0,0)):=(hgr.block a (by first|(simp;omega)|omega) HRW.out).trans ((by first|exact Below.heap_alloc w19 _ _ hla|exact Below.heap_alloc w19.drew _ _ hla:_=w19.heap[a]?).trans HA19.out.box.1);have e31:w20.cell? ⟨a,10,none⟩=some (.slice M17.eA M17.E.length M17.ec):=cell_of_row w20 a 10 _ _ _ B20;have f31:=frozen_of_row w20 a 10 _ _ B20;have hp3:=qa0 B20);all_goals
  have hT:=ATo.below (by first|exact(Below.refl _ _).alloc (Nat.le_refl _) _|exact(Below.refl _ _).drew.alloc (Nat.le_refl _) _|exact((Below.refl _ _).alloc (Nat.le_refl _) _).drew) (qa6.setEff (HA19.out.below (by first|exact(Below.refl _ _).alloc (Nat.le_refl _) _|exact(Below.refl _ _).drew.alloc (Nat.le_refl _) _|exact((Below.refl _ _).alloc (Nat.le_refl _) _).drew)) hgr hown (hloc.imp (λh=>h) λ⟨y,h1,h2⟩=>⟨y,0,h1,h2⟩));rw[List.length_append,<-HFIN.out]at hT;simp only[List.length_singleton]at hT;have HT:=hid (ATo.trans HE19.out hT);clear hT hgr hown hloc;go_wp2;go_ret;exact⟨by rw[HVER.out];rfl,owed',A',c',HOLF.out,HT.out⟩
end
end
section
open Go.RowKit
section
variable {g:Own8}{w:World}{a:Nat}{P:qag}{M:qa4}
theorem qwy{t e grp n ver id gr vb yb:Nat}{x:ChgC}{y:BlkC}{owed':List Int}{g':Own8}{w10:World}{M10:qa4}{u5 u6 u7 u9 u14 u15 u16 u17 u18 u19 u20 u21 u22 u23 u24 u25 u26 u27 u28 u29 u30 u31 u32 u33 u34 u35 u36 u37 u38 u39 u40 u41 u42 u43 u44 u45 u46 u47 u48 u49 u50 u51 u52 u53 u54 u55 u56 u57 u58 u59 u60 u61 u62 u63 u64 u65 u66 u67 u68 u69 u70 u71 u72 u73 u74 u75 u76 u77 u78 u79 u80 u81 u82 u83 u84 u85 u86 u87 u88 u89 u90 u91 u92 u93 u94 u95 u96 u97 u98 u99 u100 u101 u102 u103 u104 u105 u106 u107 u108 u109 u110 u111 u112 u113 u114 u115 u116 u117 u118 u119 u120 u121 u122 u123 u124 u125 u126 u127 u128 u129 u130 u131 u132 u133 u134 u135 u136 u137 u138 u139 u140 u141 u142 u143 u144 u145 u146 u147 u148 u149 u150 u151 u152 u153 u154 u155 u156 u157 u158 u159 u160 u161 u162 u163 u164 u165 u166 u167 u168 u169 u170 u171 u172 u173 u174 u175 u176 u177 u178 u179 u180 u181 u182 u183 u184 u185 u186 u187 u188 u189 u190 u191 u192 u193 u194:Value}(h:qBg a P M t e grp n x ver id gr vb yb y owed' g w g' w10 M10):
 Code.wp prog chB (bodyPost prog Tryz.f309 (qod a P M x e grp n g w)) ⟨((Value.pointer (some ⟨a,0,none⟩))::(Value.int .i64 (t:Int))::(Value.int .u64 (e:Int))::x.v::(Value.int .u64 (gr:Int))::u5::u6::u7::(Value.pointer (some ⟨vb,0,none⟩))::u9::(Value.int .u64 0)::(Value.int .u64 (ver:Int))::(Value.int .u64 (id:Int))::(Value.pointer (some ⟨yb,0,none⟩))::u14::u15::u16::u17::u18::u19::u20::u21::u22::u23::u24::u25::u26::u27::u28::u29::u30::u31::u32::u33::u34::u35::u36::u37::u38::u39::u40::u41::u42::u43::u44::u45::u46::u47::u48::u49::u50::u51::u52::u53::u54::u55::u56::u57::u58::u59::u60::u61::u62::u63::u64::u65::u66::u67::u68::u69::u70::u71::u72::u73::u74::u75::u76::u77::u78::u79::u80::u81::u82::u83::u84::u85::u86::u87::u88::u89::u90::u91::u92::u93::u94::u95::u96::u97::u98::u99::u100::u101::u102::u103::u104::u105::u106::u107::u108::u109::u110::u111::u112::u113::u114::u115::u116::u117::u118::u119::u120::u121::u122::u123::u124::u125::u126::u127::u128::u129::u130::u131::u132::u133::u134::u135::u136::u137::u138::u139::u140::u141::u142::u143::u144::u145::u146::u147::u148::u149::u150::u151::u152::u153::u154::u155::u156::u157::u158::u159::u160::u161::u162::u163::u164::u165::u166::u167::u168::u169::u170::u171::u172::u173::u174::u175::u176::u177::u178::u179::u180::u181::u182::u183::u184::u185::u186::u187::u188::u189::u190::u191::u192::u193::u194::[]).toArray,[]⟩ w10:=by
 have HP:=hid h.pre;have hg:=h.hg;have HVER:=hid h.hver;have HID:=hid h.hid;have HGR:=hid h.hgr;have HY:=hid h.hy;have HOLF:=hid h.how;have HM10:=hid h.hM;have HA10:=hid h.ar;have HN10:=hid h.xr;have HY10:=hid h.yr;have HE10:=hid h.ext;have HMAY:=hid (show mayB y=true by rw[h.hy];exact h.pre.may);have HT:=hid (show M10.T=M.T by rw[h.hM]);have HO:=hid (show M10.O=M.O by rw[h.hM]);have HQ:=hid (show M10.Q=M.Q by rw[h.hM]);have HQN:=hid (show M10.qn=M.qn by rw[h.hM]);have hnD:=h.pre.hn;clear h;have hXV:=x.v_eq;rw[hXV];clear hXV;obtain⟨c0,c1,c2,c3,c4,c5,c6,c7,c8,c9,cA⟩:=ChgC.cells HN10.out.1;obtain⟨y0,y1,y2,y3,y4,y5,y6⟩:=BlkC.cells HY10.out.1;have hl0:=HN10.out.lt;have hl1:=HY10.out.lt;conv=>arg 2;whnf
 have hgw:wrap64 (gr:Int)=(gr:Int):=Go.IntWalk.wrap64_in _ (by have h0:gr<=1000001:=(by rw[HGR.out,qel];have:=HP.out.ver;split <;> omega);omega);go_upto_region 18 with fail;obtain⟨k0,hk0⟩:∃k0:qa3,k0=⟨y.key,id,ver,x.line,y.cls⟩:=⟨_,rfl⟩;obtain⟨f0,hf0⟩:∃f0:EffC,f0=⟨0,y.key,y.val,id,ver,e,(gr:Int)⟩:=⟨_,rfl⟩;obtain⟨kb,hkb⟩:∃kb,kb=w10.heap.size:=⟨_,rfl⟩;have KE:k0.enc=[.string y.key,.int .u64 (id:Int),.int .u64 (ver:Int),.int .i64 x.line,.int .i64 y.cls]:=by rw[hk0];rfl
 have FE:f0.enc=[.int .i64 0,.string y.key,.string y.val,.int .u64 (id:Int),.int .u64 (ver:Int),.int .u64 (e:Int),.int .i64 (gr:Int)]:=by rw[hf0];rfl
 generalize hw11:World.alloc _ _=w11;have b11:Below w10.heap.size w10 w11:=by rw[<-hw11];exact((Below.refl _ _).alloc (Nat.le_refl _) _).alloc (by simp) _
 have RK:w11.heap[kb]? =some (.cells k0.enc.toArray 85 (0,0)):=by rw[KE,<-hw11,hkb];exact(Below.heap_alloc _ _ _ (by simp)).trans ((qa2 _ _ _).trans (if_pos rfl))
 have RF:w11.heap[kb+1]? =some (.cells f0.enc.toArray 70 (0,0)):=by rw[FE,<-hw11,hkb];exact(qa2 _ _ _).trans (if_pos (by simp))
 have HK:=hid (show NobR g' w11 kb 85 k0.enc from⟨RK,by rw[hkb];exact HA10.out.far _ (Nat.le_refl _)⟩);have HF:=hid (show NobR g' w11 (kb+1) 70 f0.enc from⟨RF,by rw[hkb];exact HA10.out.far _ (Nat.le_succ _)⟩);have HN11:=hid (HN10.out.below b11);have HA11:=hid (HA10.out.below b11);have HE11:=hid (HE10.out.trans (Ext.below b11));have hkbw:w10.heap.size=kb:=hkb.symm;have HE11z:=hid HE10.out.only.size;have HVB:=hid (show vb<kb by rw[hkb];exact HN10.out.lt);have HK0:=hid hk0;have HF0:=hid hf0;have HY0:=HY;rw[<-hkb];clear hw11 b11 RK RF hkb KE FE hk0 hf0 HA10 HN10 HE10 HY10 c0 c1 c2 c3 c4 c5 c6 c7 c8 c9 cA y0 y1 y2 y3 y4 y5 y6 hl0 hl1 hgw;obtain⟨c0,c1,c2,c3,c4,c5,c6,c7,c8,c9,cA⟩:=ChgC.cells HN11.out.1;have hl0:=HN11.out.lt;have hkb:w.heap.size<=kb:=by rw[<-hkbw];exact HE11z.out
 have hkne:kb≠kb+1:=by omega
 have hvne:vb≠kb+1:=by have:=HVB.out;omega
 obtain⟨f1,hf1⟩:∃f1:EffC,f1= {f0 with kind:=(if x.kind=2 then 1 else if x.kind=3 then 2 else if x.kind=4 then 3 else 4),key:=(if x.kind=2\/x.kind=3 then x.key else ByteArray.empty)}:=⟨_,rfl⟩;obtain⟨M14,hM14⟩:∃M14:qa4,M14= {M10 with T:=chT M x e,O:=chO M x e,Q:=chQ M x e,qn:=chQn M x}:=⟨_,rfl⟩;have HF1:=hid hf1;have HM14:=hid hM14;clear hf1 hM14 hkbw;go_upto_block 2 with fail;go_cut [19] (λv19 wx=>v19=.int .i64 (qdx x)/\∃g4,qa6 g4 wx a P M14/\Ext g g4 w wx/\NobR g4 wx vb 376 x.enc/\NobR g4 wx (kb+1) 70 f1.enc)
 case first =>
  by_cases h2:x.kind=2
  · have b2:(x.kind==2)=true:=by rw[h2];rfl
    have e0:qcj M x e=k0:=by rw[HK0.out,qcj,<-HY0.out,<-HID.out,HVER.out]
    have e1:chT M x e=updB M10.T (bucket k0.key) (setM (M10.T (bucket k0.key)) k0):=by rw[chT,if_pos h2,e0,HT.out]
    have e2:chO M x e=setL M10.O k0:=by rw[chO,if_pos h2,e0,HO.out]
    have e3:chQ M x e=M10.Q:=by rw[chQ,if_neg (by omega),if_neg (by omega),HQ.out]
    have e4:chQn M x=M10.qn:=by rw[chQn,if_neg (by omega),HQN.out]
    have HM:=hid (show M14= {M10 with T:=updB M10.T (bucket k0.key) (setM (M10.T (bucket k0.key)) k0),O:=setL M10.O k0}by rw[HM14.out,e1,e2,e3,e4]);have e5:y.key=x.key:=by rw[HY0.out,qda,qca,if_pos h2]
    have HFF:=hid (show({f0 with kind:=1}:EffC)=f1 by rw[HF1.out,if_pos h2,if_pos (.inl h2),<-e5,HF0.out]);have HAN:=hid (show qdx x= -1 by rw[qdx,if_neg (by omega)]);have hkk:k0.key.size<=1000000:=by
     rw[HK0.out];have:=(qeg HMAY.out).2.1;show y.key.size<=_
     omega
    rw[h2]at c0;have f0c:=frozen_of_row w11 (kb+1) 0 _ _ HF.out.1;have q0c:w11.cell? ⟨kb+1,0,none⟩=some (.int .i64 f0.kind):=cell_of_row w11 _ 0 _ _ _ HF.out.1;have hlf:=HF.out.lt;have HKK:=hid hkk;clear e0 e1 e2 e3 e4 e5 hkk h2;go_upto_region 21 with fail;obtain⟨w12,hw12⟩:∃w12,w12=w11.setCell ⟨kb+1,0,none⟩ (.int .i64 1):=⟨_,rfl⟩;rw[<-hw12];have HF12:=hid (show NobR g' w12 (kb+1) 70 f1.enc by rw[hw12,<-HFF.out];exact HF.out.set 0 (.int .i64 1) rfl);have HK12:=hid (show NobR g' w12 kb 85 k0.enc by rw[hw12];exact HK.out.other hkne 0 _);have HN12:=hid (show NobR g' w12 vb 376 x.enc by rw[hw12];exact HN11.out.other hvne 0 _);have HA12:=hid (show qa6 g' w12 a P M10 by rw[hw12];exact HA11.out.set0 HF.out.2 0 _);have HE12:=hid (show Ext g g' w w12 by rw[hw12];exact HE11.out.setNew (by omega) 0 _);clear hw12 c0 c1 c2 c3 c4 c5 c6 c7 c8 c9 cA hl0 f0c q0c hlf;have q5:=HA12.out.cells.2.2.2.2.2.1;have hla:=qa0 HA12.out.box.1;have m0:=cell_of_row w12 _ 0 _ _ _ HK12.out.1;have m1:=cell_of_row w12 _ 1 _ _ _ HK12.out.1;have m2:=cell_of_row w12 _ 2 _ _ _ HK12.out.1;have m3:=cell_of_row w12 _ 3 _ _ _ HK12.out.1;have m4:=cell_of_row w12 _ 4 _ _ _ HK12.out.1;simp only[qa3.enc,List.getElem?_toArray,List.getElem?_cons_zero,List.getElem?_cons_succ]at m0 m1 m2 m3 m4;have hlk:=HK12.out.lt;have HKV:=hid (show k0.val=.agg #[.string k0.key,.int .u64 (k0.id:Int),.int .u64 (k0.ver:Int),.int .i64 k0.line,.int .i64 k0.cls]from rfl);go_still_tail 5,(by kernel_rfl);change wpList _ _ _ _ _ (World.drew w12);have b13:Below w12.heap.size w12 w12.drew:=(Below.refl _ _).drew;have HF13:=hid (HF12.out.below b13);have HK13:=hid (HK12.out.below b13);have HN13:=hid (HN12.out.below b13);have HA13:=hid (HA12.out.below b13);have HE13:=hid (HE12.out.trans (Ext.below b13));generalize hw13:World.drew w12=w13 at *;clear hw13 b13 q5 hla m0 m1 m2 m3 m4 hlk HF12 HK12 HN12 HA12 HE12;go_wp2_with fail;have TT:=qo6 HA13.out k0 HKK.out;rw[HKV.out]at TT;refine TT.mono ?_;rintro r w14⟨⟨v,rfl⟩,g14,A14,E14⟩;have HF14:=hid (HF13.out.ext E14);have HK14:=hid (HK13.out.ext E14);have HN14:=hid (HN13.out.ext E14);have HA14:=hid A14;have HE14:=hid (HE13.out.trans E14);clear TT A14 E14 HF13 HK13 HN13 HA13 HE13;have q6:=HA14.out.cells.2.2.2.2.2.2.1;have hla:=qa0 HA14.out.box.1;have m0:=cell_of_row w14 _ 0 _ _ _ HK14.out.1;have m1:=cell_of_row w14 _ 1 _ _ _ HK14.out.1;have m2:=cell_of_row w14 _ 2 _ _ _ HK14.out.1;have m3:=cell_of_row w14 _ 3 _ _ _ HK14.out.1;have m4:=cell_of_row w14 _ 4 _ _ _ HK14.out.1;simp only[qa3.enc,List.getElem?_toArray,List.getElem?_cons_zero,List.getElem?_cons_succ]at m0 m1 m2 m3 m4;have hlk:=HK14.out.lt;go_upto_region 22 with fail;go_still_tail 5,(by kernel_rfl);change wpList _ _ _ _ _ (World.drew w14);have b15:Below w14.heap.size w14 w14.drew:=(Below.refl _ _).drew;have HF15:=hid (HF14.out.below b15);have HN15:=hid (HN14.out.below b15);have HA15:=hid (HA14.out.below b15);have HE15:=hid (HE14.out.trans (Ext.below b15));generalize hw15:World.drew w14=w15 at *;clear hw15 b15 q6 hla m0 m1 m2 m3 m4 hlk HF14 HK14 HN14 HA14 HE14;go_wp2_with fail;refine(qo7 HA15.out k0 (show Rise M10.O by rw[HO.out];exact HP.out.rise) (show M10.O.length<=50000 by rw[HO.out];exact HP.out.few.o) HKK.out).mono ?_;rintro r w16⟨⟨v2,rfl⟩,g16,A16,E16⟩;have HF16:=hid (HF15.out.ext E16);have HN16:=hid (HN15.out.ext E16);have HA16:=hid A16;have HE16:=hid (HE15.out.trans E16);clear A16 E16 HF15 HN15 HA15 HE15;go_wp2_with fail;go_meet;exact⟨by rw[HAN.out],g16,by rw[HM.out];exact HA16.out,HE16.out,HN16.out,HF16.out⟩
  by_cases h3:x.kind=3
  · have b2:(x.kind==2)=false:=by rw[h3];rfl
    have b3:(x.kind==3)=true:=by rw[h3];rfl
    have e1:chT M x e=updB M10.T (bucket x.key) (delM (M10.T (bucket x.key)) x.key):=by rw[chT,if_neg h2,if_pos h3,HT.out]
    have e2:chO M x e=qd9 M10.O x.key:=by rw[chO,if_neg h2,if_pos h3,HO.out]
    have e3:chQ M x e=M10.Q:=by rw[chQ,if_neg (by omega),if_neg (by omega),HQ.out]
    have e4:chQn M x=M10.qn:=by rw[chQn,if_neg (by omega),HQN.out]
    have HM:=hid (show M14= {M10 with T:=updB M10.T (bucket x.key) (delM (M10.T (bucket x.key)) x.key),O:=qd9 M10.O x.key}by rw[HM14.out,e1,e2,e3,e4]);have HFF:=hid (show({f0 with kind:=2,key:=x.key}:EffC)=f1 by rw[HF1.out,if_neg h2,if_pos h3,if_pos (.inr h3)]);have HAN:=hid (show qdx x=(n:Int)by rw[qdx,if_pos (.inl h3),HP.out.line]);have hkk:=HP.out.key;rw[h3]at c0;rw[HP.out.line]at c9;have f0c:=frozen_of_row w11 (kb+1) 0 _ _ HF.out.1;have f1c:=frozen_of_row w11 (kb+1) 1 _ _ HF.out.1;have q0c:w11.cell? ⟨kb+1,0,none⟩=some (.int .i64 f0.kind):=cell_of_row w11 _ 0 _ _ _ HF.out.1;have q1c:w11.cell? ⟨kb+1,1,none⟩=some (.string f0.key):=cell_of_row w11 _ 1 _ _ _ HF.out.1;have hlf:=HF.out.lt;have HKK:=hid hkk;have hnv:kb+1≠vb:=λh=>hvne h.symm
    clear e1 e2 e3 e4 hkk h3 h2;go_upto_region 24 with fail;go_cut [19] (λv19 wx=>v19=.int .i64 (n:Int)/\∃g4,qa6 g4 wx a P M10/\Ext g g4 w wx/\NobR g4 wx vb 376 x.enc/\NobR g4 wx (kb+1) 70 f1.enc)
    case first =>
     go_region;all_goals
      go_wp2_with fail;go_meet;exact⟨rfl,g',((HA11.out.set0 HF.out.2 0 _).set0 HF.out.2 1 _).below (Below.refl _ _).drew,((HE11.out.setNew (by omega) 0 _).setNew (by omega) 1 _).trans (Ext.below (Below.refl _ _).drew),((HN11.out.other hvne 0 _).other hvne 1 _).below (Below.refl _ _).drew,(by rw[<-HFF.out];exact((HF.out.set 0 (.int .i64 2) (cs':=({f0 with kind:=2}:EffC).enc) rfl).set 1 (.string x.key) rfl).below (Below.refl _ _).drew)⟩
    obtain⟨rfl,g12,A12,E12,N12,F12⟩:=hcut;obtain⟨w12,hw12⟩:∃x,x=wc:=⟨_,rfl⟩;subst hw12;have HF12:=hid F12;have HN12:=hid N12;have HA12:=hid A12;have HE12:=hid E12;clear A12 E12 N12 F12 c0 c1 c2 c3 c4 c5 c6 c7 c8 c9 cA hl0 f0c f1c q0c q1c hlf;obtain⟨c0,c1,c2,c3,c4,c5,c6,c7,c8,c9,cA⟩:=ChgC.cells HN12.out.1;have hl0:=HN12.out.lt;have q5:=HA12.out.cells.2.2.2.2.2.1;have hla:=qa0 HA12.out.box.1;go_upto_region 25 with fail;go_still_tail 6,(by kernel_rfl);change wpList _ _ _ _ _ (World.drew w12);have b13:Below w12.heap.size w12 w12.drew:=(Below.refl _ _).drew;have HF13:=hid (HF12.out.below b13);have HN13:=hid (HN12.out.below b13);have HA13:=hid (HA12.out.below b13);have HE13:=hid (HE12.out.trans (Ext.below b13));generalize hw13:World.drew w12=w13 at *;clear hw13 b13 q5 hla c0 c1 c2 c3 c4 c5 c6 c7 c8 c9 cA hl0 HF12 HN12 HA12 HE12;go_wp2_with fail;refine(qmc HA13.out x.key HKK.out).mono ?_;rintro r w14⟨⟨v,rfl⟩,g14,A14,E14⟩;have HF14:=hid (HF13.out.ext E14);have HN14:=hid (HN13.out.ext E14);have HA14:=hid A14;have HE14:=hid (HE13.out.trans E14);clear A14 E14 HF13 HN13 HA13 HE13;obtain⟨c0,c1,c2,c3,c4,c5,c6,c7,c8,c9,cA⟩:=ChgC.cells HN14.out.1;have hl0:=HN14.out.lt;have q6:=HA14.out.cells.2.2.2.2.2.2.1;have hla:=qa0 HA14.out.box.1;go_upto_region 26 with fail;go_still_tail 6,(by kernel_rfl);change wpList _ _ _ _ _ (World.drew w14);have b15:Below w14.heap.size w14 w14.drew:=(Below.refl _ _).drew;have HF15:=hid (HF14.out.below b15);have HN15:=hid (HN14.out.below b15);have HA15:=hid (HA14.out.below b15);have HE15:=hid (HE14.out.trans (Ext.below b15));generalize hw15:World.drew w14=w15 at *;clear hw15 b15 q6 hla c0 c1 c2 c3 c4 c5 c6 c7 c8 c9 cA hl0 HF14 HN14 HA14 HE14;go_wp2_with fail;refine(qmd HA15.out x.key (show Rise M10.O by rw[HO.out];exact HP.out.rise) (show M10.O.length<=50000 by rw[HO.out];exact HP.out.few.o) HKK.out).mono ?_;rintro r w16⟨⟨v2,rfl⟩,g16,A16,E16⟩;have HF16:=hid (HF15.out.ext E16);have HN16:=hid (HN15.out.ext E16);have HA16:=hid A16;have HE16:=hid (HE15.out.trans E16);clear A16 E16 HF15 HN15 HA15 HE15;go_wp2_with fail;go_meet;exact⟨by rw[HAN.out],g16,by rw[HM.out];exact HA16.out,HE16.out,HN16.out,HF16.out⟩
  by_cases h4:x.kind=4
  · have b2:(x.kind==2)=false:=by rw[h4];rfl
    have b3:(x.kind==3)=false:=by rw[h4];rfl
    have b4:(x.kind==4)=true:=by rw[h4];rfl
    have e0:qcj M x e=k0:=by rw[HK0.out,qcj,<-HY0.out,<-HID.out,HVER.out]
    have e1:chT M x e=M10.T:=by rw[chT,if_neg h2,if_neg h3,HT.out]
    have e2:chO M x e=M10.O:=by rw[chO,if_neg h2,if_neg h3,HO.out]
    have e3:chQ M x e=M10.Q++[k0]:=by rw[chQ,if_pos h4,HQ.out,e0]
    have e4:chQn M x=max M10.qn (M10.Q.length+1):=by rw[chQn,if_pos h4,HQN.out,HQ.out]
    have HM:=hid (show M14= {M10 with Q:=M10.Q++[k0],qn:=max M10.qn (M10.Q.length+1)}by rw[HM14.out,e1,e2,e3,e4]);have e5:y.key=ByteArray.empty:=by rw[HY0.out,qda,qca,if_neg h2,if_pos h4]
    have HFF:=hid (show({f0 with kind:=3}:EffC)=f1 by rw[HF1.out,if_neg h2,if_neg h3,if_pos h4,if_neg (by omega),<-e5,HF0.out]);have HAN:=hid (show qdx x= -1 by rw[qdx,if_neg (by omega)]);rw[h4]at c0;have f0c:=frozen_of_row w11 (kb+1) 0 _ _ HF.out.1;have q0c:w11.cell? ⟨kb+1,0,none⟩=some (.int .i64 f0.kind):=cell_of_row w11 _ 0 _ _ _ HF.out.1;have hlf:=HF.out.lt;clear e0 e1 e2 e3 e4 e5 h4 h2 h3;go_upto_region 29 with fail;obtain⟨w12,hw12⟩:∃w12,w12=w11.setCell ⟨kb+1,0,none⟩ (.int .i64 3):=⟨_,rfl⟩;rw[<-hw12];have HF12:=hid (show NobR g' w12 (kb+1) 70 f1.enc by rw[hw12,<-HFF.out];exact HF.out.set 0 (.int .i64 3) rfl);have HK12:=hid (show NobR g' w12 kb 85 k0.enc by rw[hw12];exact HK.out.other hkne 0 _);have HN12:=hid (show NobR g' w12 vb 376 x.enc by rw[hw12];exact HN11.out.other hvne 0 _);have HA12:=hid (show qa6 g' w12 a P M10 by rw[hw12];exact HA11.out.set0 HF.out.2 0 _);have HE12:=hid (show Ext g g' w w12 by rw[hw12];exact HE11.out.setNew (by omega) 0 _);clear hw12 c0 c1 c2 c3 c4 c5 c6 c7 c8 c9 cA hl0 f0c q0c hlf;have q7:=HA12.out.cells.2.2.2.2.2.2.2.1;have hla:=qa0 HA12.out.box.1;have m0:=cell_of_row w12 _ 0 _ _ _ HK12.out.1;have m1:=cell_of_row w12 _ 1 _ _ _ HK12.out.1;have m2:=cell_of_row w12 _ 2 _ _ _ HK12.out.1;have m3:=cell_of_row w12 _ 3 _ _ _ HK12.out.1;have m4:=cell_of_row w12 _ 4 _ _ _ HK12.out.1;simp only[qa3.enc,List.getElem?_toArray,List.getElem?_cons_zero,List.getElem?_cons_succ]at m0 m1 m2 m3 m4;have hlk:=HK12.out.lt;have HKV:=hid (show k0.val=.agg #[.string k0.key,.int .u64 (k0.id:Int),.int .u64 (k0.ver:Int),.int .i64 k0.line,.int .i64 k0.cls]from rfl);go_still_tail 5,(by kernel_rfl);change wpList _ _ _ _ _ (World.drew w12);have b13:Below w12.heap.size w12 w12.drew:=(Below.refl _ _).drew;have HF13:=hid (HF12.out.below b13);have HN13:=hid (HN12.out.below b13);have HA13:=hid (HA12.out.below b13);have HE13:=hid (HE12.out.trans (Ext.below b13));generalize hw13:World.drew w12=w13 at *;clear hw13 b13 q7 hla m0 m1 m2 m3 m4 hlk HF12 HK12 HN12 HA12 HE12;go_wp2_with fail;have TT:=qu5 HA13.out k0 (show M10.qn<=90000 by rw[HQN.out];have:=HP.out.few.qn;omega) (show M10.Q.length<=90000 by rw[HQ.out];have:=HP.out.few.q;omega);rw[HKV.out]at TT;refine TT.mono ?_;rintro r w16⟨rfl,g16,A16,E16⟩;have HF16:=hid (HF13.out.ext E16);have HN16:=hid (HN13.out.ext E16);have HA16:=hid A16;have HE16:=hid (HE13.out.trans E16);clear TT A16 E16 HF13 HN13 HA13 HE13;go_wp2_with fail;go_meet;exact⟨by rw[HAN.out],g16,by rw[HM.out];exact HA16.out,HE16.out,HN16.out,HF16.out⟩
  have h5:x.kind=5:=by
   have:=HP.out.kind;simp only[qbw,Bool.or_eq_true,Bool.and_eq_true,beq_iff_eq]at this;rcases this with((h|h)|h)|h
   · exact absurd h h2
   · exact absurd h h3
   · exact absurd h h4
   · exact h.1
  have b2:(x.kind==2)=false:=by rw[h5];rfl
  have b3:(x.kind==3)=false:=by rw[h5];rfl
  have b4:(x.kind==4)=false:=by rw[h5];rfl
  have b5:(x.kind==5)=true:=by rw[h5];rfl
  have e1:chT M x e=M10.T:=by rw[chT,if_neg h2,if_neg h3,HT.out]
  have e2:chO M x e=M10.O:=by rw[chO,if_neg h2,if_neg h3,HO.out]
  have e3:chQ M x e=M10.Q.tail:=by rw[chQ,if_neg h4,if_pos h5,HQ.out]
  have e4:chQn M x=M10.qn:=by rw[chQn,if_neg h4,HQN.out]
  have HM:=hid (show M14= {M10 with Q:=M10.Q.tail}by rw[HM14.out,e1,e2,e3,e4]);have e5:y.key=ByteArray.empty:=by rw[HY0.out,qda,qca,if_neg h2,if_neg h4]
  have HFF:=hid (show({f0 with kind:=4}:EffC)=f1 by rw[HF1.out,if_neg h2,if_neg h3,if_neg h4,if_neg (by omega),<-e5,HF0.out]);have HAN:=hid (show qdx x=(n:Int)by rw[qdx,if_pos (.inr h5),HP.out.line]);have HNE:=hid (show ¬M10.Q=[]by rw[HQ.out];exact HP.out.pop h5);rw[h5]at c0;rw[HP.out.line]at c9;have f0c:=frozen_of_row w11 (kb+1) 0 _ _ HF.out.1;have q0c:w11.cell? ⟨kb+1,0,none⟩=some (.int .i64 f0.kind):=cell_of_row w11 _ 0 _ _ _ HF.out.1;have hlf:=HF.out.lt;have hnv:kb+1≠vb:=λh=>hvne h.symm
  clear e1 e2 e3 e4 e5 h2 h3 h4 h5;go_upto_region 31 with fail;go_cut [19] (λv19 wx=>v19=.int .i64 (n:Int)/\∃g4,qa6 g4 wx a P M10/\Ext g g4 w wx/\NobR g4 wx vb 376 x.enc/\NobR g4 wx (kb+1) 70 f1.enc)
  case first =>
   go_region;all_goals
    go_wp2_with fail;go_meet;exact⟨rfl,g',(HA11.out.set0 HF.out.2 0 _).below (Below.refl _ _).drew,(HE11.out.setNew (by omega) 0 _).trans (Ext.below (Below.refl _ _).drew),(HN11.out.other hvne 0 _).below (Below.refl _ _).drew,(by rw[<-HFF.out];exact(HF.out.set 0 (.int .i64 4) rfl).below (Below.refl _ _).drew)⟩
  obtain⟨rfl,g12,A12,E12,N12,F12⟩:=hcut;obtain⟨w12,hw12⟩:∃x,x=wc:=⟨_,rfl⟩;subst hw12;have HF12:=hid F12;have HN12:=hid N12;have HA12:=hid A12;have HE12:=hid E12;clear A12 E12 N12 F12 c0 c1 c2 c3 c4 c5 c6 c7 c8 c9 cA hl0 f0c q0c hlf;have q7:=HA12.out.cells.2.2.2.2.2.2.2.1;have hla:=qa0 HA12.out.box.1;go_wp2_with fail;refine(qxh HA12.out (show M10.qn<=90000 by rw[HQN.out];have:=HP.out.few.qn;omega) HNE.out).mono ?_;rintro r w16⟨⟨v,rfl⟩,g16,A16,E16⟩;have HF16:=hid (HF12.out.ext E16);have HN16:=hid (HN12.out.ext E16);have HA16:=hid A16;have HE16:=hid (HE12.out.trans E16);clear A16 E16 HF12 HN12 HA12 HE12;go_wp2_with fail;go_meet;exact⟨by rw[HAN.out],g16,by rw[HM.out];exact HA16.out,HE16.out,HN16.out,HF16.out⟩
 obtain⟨rfl,g16,A16,E16,N16,F16⟩:=hcut;have hE:qBh a P M t e grp n x ver vb kb (qdx x) f1 owed' g w g16 wc M14:=
  ⟨HP.out,HVER.out,HOLF.out,rfl,by rw[HF1.out,HF0.out,qx0,<-HY.out,<-HID.out,<-HVER.out,<-HGR.out],by rw[HM14.out,HM10.out],A16,N16,F16,E16⟩
 go_step;exact qwx hE
end
end
end Go.Proofs.YtecikkjbnkhhkaaGreat
