/- A part of the walk. -/
import Derived.Test.YtecikkjbnkhhkaaGreatP24
import Derived.Test.YtecikkjbnkhhkaaGreatP22
import Derived.Deep.CutBlock
namespace Go.Proofs.YtecikkjbnkhhkaaGreat
open _root_.Go.Proofs.Tryz
open Go.RowKit
section
variable {g:Own8}{w:World}{a:Nat}{P:qag}{M:qa4}
def ATs(g:Own8)(w:World)(a:Nat)(P:qag)(M':qa4)(v:Value)(e:Ending)(w':World):Prop:=e=.returned v/\ATo g w w' a P M'
theorem qxe(h:qa6 g w a P M)(hv:M.ver<=1000000):Calls prog 265 #[.pointer (some ⟨a,9,none⟩),.int .u64 1] w (ATs g w a P {M with ver:=M.ver+1} (.int .u64 ((M.ver+1:Nat):Int))):=by
 have e1:IntKind.u64.wrap ((M.ver:Int)+1)=((M.ver+1:Nat):Int):=by rw[IntKind.wrap_u64];omega
 refine(qpb a 9 (M.ver:Int) 1 w h.cells.2.2.2.2.2.2.2.2.2.1 (frozen_of_row w a 9 _ _ h.box.1) (qa0 h.box.1)).mono ?_;rintro e w'⟨rfl,rfl⟩;rw[e1];exact⟨rfl,h.setNum M.id (M.ver+1) (qay h.box.1 9 _) ((Only.refl _ w).setCell _ _ (.inl h.box.2))⟩
theorem qzu(h:qa6 g w a P M)(hv:M.id<=1000000):Calls prog 265 #[.pointer (some ⟨a,8,none⟩),.int .u64 1] w (ATs g w a P {M with id:=M.id+1} (.int .u64 ((M.id+1:Nat):Int))):=by
 have e1:IntKind.u64.wrap ((M.id:Int)+1)=((M.id+1:Nat):Int):=by rw[IntKind.wrap_u64];omega
 refine(qpb a 8 (M.id:Int) 1 w h.cells.2.2.2.2.2.2.2.2.1 (frozen_of_row w a 8 _ _ h.box.1) (qa0 h.box.1)).mono ?_;rintro e w'⟨rfl,rfl⟩;rw[e1];exact⟨rfl,h.setNum (M.id+1) M.ver (qay h.box.1 8 _) ((Only.refl _ w).setCell _ _ (.inl h.box.2))⟩
theorem qu6(h:qa6 g w a P M)(t i:Nat)(ht:t<M.owed.length)(hi:i<258):Calls prog 269 #[.pointer (some ⟨P.cp,0,none⟩),.int .i64 (t:Int),.int .i64 (i:Int)] w λe w'=>e=.returned (.int .i64 0)/\∃owed',owed'.length=M.owed.length/\ATo g w w' a P {M with owed:=owed',noted:=M.noted.set i true}:=by
 have hc:=h.clk;refine(qvw w 0 P.cp P.oc M.now M.dur M.clo M.owed M.noted M.left M.step hc.1 t i ht hi).mono ?_;rintro e w'⟨rfl,⟨owed',hl,hk⟩,ho,hb⟩;exact⟨rfl,owed',hl,h.setClk (qcx.of2 hb (λj _ h1 h2=>ho j h1 h2) hc.2.1 hc.2.2) hk⟩
theorem qbk.trim(h:qa6 g w a P M):qbk (λj=>g j=7/\j<w.heap.size) w P.tb P.mb M.T:=
 ⟨h.tab.box,h.tab.map,h.tab.inj,h.tab.bkt,⟨⟨h.tab.own.1,h.tab.lt⟩,λi hi=>⟨h.tab.own.2 i hi,(h.tab.map i hi).lt⟩⟩⟩
theorem qo6(h:qa6 g w a P M)(x:qa3)(hk:x.key.size<=1000000):Calls prog 280 #[.pointer (some ⟨P.tb,0,none⟩),x.val] w λe w'=>(∃v,e=.returned v)/\ATo g w w' a P {M with T:=updB M.T (bucket x.key) (setM (M.T (bucket x.key)) x)}:=by
 refine(qpr (qbk.trim h) x hk).mono ?_;rintro e w'⟨rfl,ht,ho⟩;exact⟨⟨_,rfl⟩,h.setTab (ho.mono λj hj=>.inl (by rw[hj];exact h.tab.own.2 _ (qb6 _))) ht⟩
theorem qmc(h:qa6 g w a P M)(key:ByteArray)(hk:key.size<=1000000):Calls prog 344 #[.pointer (some ⟨P.tb,0,none⟩),.string key] w λe w'=>(∃v,e=.returned v)/\ATo g w w' a P {M with T:=updB M.T (bucket key) (delM (M.T (bucket key)) key)}:=by
 refine(qmt (qbk.trim h) key hk).mono ?_;rintro e w'⟨rfl,ht,ho⟩;exact⟨⟨_,rfl⟩,h.setTab (ho.mono λj hj=>.inl (by rw[hj];exact h.tab.own.2 _ (qb6 _))) ht⟩
theorem qo7(h:qa6 g w a P M)(x:qa3)(hr:Rise M.O)(hl:M.O.length<=50000)(hk:x.key.size<=1000000):Calls prog 281 #[.pointer (some ⟨P.ob,0,none⟩),.agg #[.string x.key,.int .u64 x.id,.int .u64 x.ver,.int .i64 x.line,.int .i64 x.cls]] w λe w'=>(∃v,e=.returned v)/\ATo g w w' a P {M with O:=setL M.O x}:=by
 refine(qvs (F:=λj=>g j=8\/w.heap.size<=j) x w (Ord.mono h.ord λ_ hj=>.inl hj) (λj hj=>.inr hj) hr hl hk).mono ?_;rintro e w'⟨rfl,ho,hn⟩;exact⟨⟨_,rfl⟩,h.setOrd hn ho⟩
theorem qmd(h:qa6 g w a P M)(key:ByteArray)(hr:Rise M.O)(hl:M.O.length<=50000)(hk:key.size<=1000000):Calls prog 345 #[.pointer (some ⟨P.ob,0,none⟩),.string key] w λe w'=>(∃v,e=.returned v)/\ATo g w w' a P {M with O:=qd9 M.O key}:=by
 refine(qs7 (F:=λj=>g j=8\/w.heap.size<=j) key w (Ord.mono h.ord λ_ hj=>.inl hj) (λj hj=>.inr hj) hr hl hk).mono ?_;rintro e w'⟨rfl,ho,hn⟩;exact⟨⟨_,rfl⟩,h.setOrd hn ho⟩
theorem qhc{i:Nat}{w':World}{A A':Option Addr}{c c':Nat}(hr:qc8 g i A c)(hl:∀b,qa8 A c=some b->b<w.heap.size)(hl':∀b,qa8 A' c'=some b->b<w'.heap.size)(hloc:A'=A/\c'=c\/∃y off,A'=some ⟨y,off,none⟩/\w.heap.size<=y):qc8 (mark g w w' i) i A' c':=by
 intro b hb;rcases hloc with⟨rfl,rfl⟩|⟨y,off,rfl,hy⟩
 · exact(qat (hl b hb)).trans (hr b hb)
 · have h2:=hl' b hb
   rw[qa8]at hb;split at hb
   · cases hb
   · cases hb;exact qos hy h2
theorem qu7(h:qa6 g w a P M){w':World}{A:Option Addr}{c qn:Nat}{Q:List qa3}(hq:qmi w 0 P.lp A c M.Q)(hr:qc8 g 9 A c)(ht:qv1 0 P.lp A c Q w w')(hg:Ring w' P.lp qn):ATo g w w' a P {M with Q:=Q,qn:=qn}:=by
 obtain⟨⟨A',c',hq',hloc⟩,hb,hk,_⟩:=ht;have hl':∀b,qa8 A' c'=some b->b<w'.heap.size:=by
  obtain⟨L,at',n,hf,_⟩:=hq';exact qcg hf.rows
 have hl:∀b,qa8 A c=some b->b<w.heap.size:=by
  obtain⟨L,at',n,hf,_⟩:=hq;exact qcg hf.rows
 obtain⟨_,_,_,h9,_⟩:=h.line;exact h.setLine ⟨hb.os,hb.tape,hb.output,hb.size,λj hj hn=>hk j hj (λe=>hn (.inl (e ▸ h9))) (λe=>hn (.inl (hr j e.symm)))⟩ hq' (qhc hr hl hl' hloc) hg
theorem qu5(h:qa6 g w a P M)(x:qa3)(hn:M.qn<=90000)(_hq:M.Q.length<=90000):Calls prog 284 #[.pointer (some ⟨P.lp,0,none⟩),x.val] w λe w'=>e=.returned (.tuple #[])/\ATo g w w' a P {M with Q:=M.Q++[x],qn:=max M.qn (M.Q.length+1)}:=by
 obtain⟨A,c,h1,h2,h3,h4⟩:=h.line;refine(qll w 0 P.lp A c M.Q x h1 (Nat.zero_le _) λL at' n hf=>by have:=h4.len hf.box;omega).mono ?_;rintro e w'⟨rfl,ht⟩;exact⟨rfl,qu7 h h1 h3 ht (ht.ring _ (λA' n' c' hc=>Nat.le_trans (h4 A' n' c' hc) (Nat.le_max_left _ _)) (by rw[List.length_append];exact Nat.le_max_right _ _))⟩
theorem qxh(h:qa6 g w a P M)(hn:M.qn<=90000)(h0:¬M.Q=[]):Calls prog 346 #[.pointer (some ⟨P.lp,0,none⟩)] w λe w'=>(∃v,e=.returned v)/\ATo g w w' a P {M with Q:=M.Q.tail}:=by
 obtain⟨A,c,h1,h2,h3,h4⟩:=h.line;refine(qnf w 0 P.lp A c M.Q h1 h0 (Nat.zero_le _) λL at' n hf=>by have:=h4.len hf.box;omega).mono ?_;rintro e w'⟨x,Q',hq,rfl,ht⟩;have hlen:M.Q.length<=M.qn:=by
  obtain⟨L,at',n,hf,hQ⟩:=h1;have:=h4.len hf.box;have:=hf.fit.1;rw[hQ,qbf hf.fit.1];omega
 have e1:M.Q.tail=Q':=by rw[hq];rfl
 rw[e1];exact⟨⟨_,rfl⟩,qu7 h h1 h3 ht (ht.ring _ h4 (by rw[hq]at hlen;simp at hlen;omega))⟩
theorem qo8(h:qa6 g w a P M)(x:EntC):Calls prog 271 #[.pointer (some ⟨P.bp,0,none⟩),x.val] w λe w'=>(∃v,e=.returned v)/\ATo g w w' a P {M with bag:=putE M.bag x}:=by
 obtain⟨A,c,h1,h2,h3⟩:=h.bag;have hap:∀o,A=some ⟨P.bp,o,none⟩->c=0:=λo hA=>by
  by_cases hc:c=0
  · exact hc
  · exact absurd (show some P.bp=qa8 A c by rw[qa8,if_neg hc,hA];rfl) (h1.rows.notBox h1.box (by decide))
 refine(qr3 w 0 P.bp A c M.bag x h1 hap).mono ?_;rintro e w'⟨code,A',c',rfl,hb,hbl,hk,hloc⟩;refine⟨⟨_,rfl⟩,h.setBag ⟨hbl.os,hbl.tape,hbl.output,hbl.size,λj hj hn=>hk j hj (λe=>hn (.inl (e ▸ h2))) λo hA=>?_⟩ hb (qhc h3 (qcg h1.rows) (qcg hb.rows) (hloc.imp id λ⟨y,h1,h2⟩=>⟨y,0,h1,h2⟩))⟩;by_cases hc:c=0
 · exact hc
 · exact absurd (h3 j (by rw[qa8,if_neg hc,hA];rfl)) (λe=>hn (.inl e))
theorem qa6.setEff(h:qa6 g w a P M){w5:World}{A':Option Addr}{c':Nat}{E':List EffC}(hg:w.grownBy w5 (qa8 M.eA M.ec))(hown:Own EffC.enc 70 7 w5 0 A' c' E')(hloc:A'=M.eA/\c'=M.ec\/∃y off,A'=some ⟨y,off,none⟩/\w.heap.size<=y):
 ATo g w (w5.setCell ⟨a,10,none⟩ (.slice A' E'.length c')) a P {M with E:=E',eA:=A',ec:=c'}:=by
 have ho5:qcx g 10 w w5:=Only.grown hg λj hj=>.inl (h.eff.2 j hj)
 have hr5:qc8 (mark g w w5 10) 10 A' c':=qhc h.eff.2 (qcg h.eff.1) (qcg hown) hloc;have bx:=h.box.keep ho5 (by decide);have g1:mark g w w5 10 a=1:=bx.2;have ho6:qcx (mark g w w5 10) 1 w5 (w5.setCell ⟨a,10,none⟩ (.slice A' E'.length c')):=(Only.refl _ w5).setCell _ _ (.inl g1);have hne:some a≠qa8 A' c':=hown.notBox bx.1 (by decide);have hf5:=h.far.mark ho5.size 10;refine⟨_,⟨hf5.mark ho6.size 1,⟨qay bx.1 10 _,(qat (qa0 bx.1)).trans g1⟩,⟨?_,?_⟩,(h.dev.keep ho5 (by decide) (by decide)).keep ho6 (by decide) (by decide),(h.pool.keep ho5 (by decide)).keep ho6 (by decide),(h.rd.keep ho5 (by decide)).keep ho6 (by decide),(h.clk.keep ho5 (by decide)).keep ho6 (by decide),(h.bag.keep ho5 (by decide)).keep ho6 (by decide),(h.tab.keep ho5 (by decide)).keep ho6 (by decide),(h.ord.keep ho5 (by decide)).keep ho6 (by decide),(h.line.keep ho5 (by decide)).keep ho6 (by decide)⟩,(ho5.ext (by decide)).trans (ho6.ext (by decide))⟩
 · refine hown.keep2 ?_
   by_cases hc:c'=0
   · exact .inl hc
   · exact .inr λb off hA _=>Below.heap_setCell _ _ _ _ λe=>hne (by rw[qa8,if_neg hc,hA];exact congrArg some e.symm)
 · exact λb hb=>(qat (qcg hown b hb)).trans (hr5 b hb)
theorem qu4(h:qa6 g w a P M):Calls prog 272 #[.pointer (some ⟨P.rp,0,none⟩)] w λe w'=>e=.returned (.int .u64 (M.rnow:Int))/\w'=w:=qjv w 0 P.rp P.rc M.rnow M.H h.rd.1
end
end Go.Proofs.YtecikkjbnkhhkaaGreat
