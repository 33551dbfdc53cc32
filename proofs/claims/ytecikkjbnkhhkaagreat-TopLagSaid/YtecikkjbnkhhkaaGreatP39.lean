/- A part of the walk. -/
import Derived.Test.YtecikkjbnkhhkaaGreatP31
import Derived.Test.YtecikkjbnkhhkaaGreatP34
import Derived.Test.YtecikkjbnkhhkaaGreatP38
namespace Go.Proofs.YtecikkjbnkhhkaaGreat
open _root_.Go.Proofs.Tryz
set_option maxHeartbeats 8000000
set_option maxRecDepth 100000
section
open Go.RowKit
theorem qwd:(prog.info? 376).map (λi=>(i.zero,i.size,i.bytes))=some (some (.agg #[.int .i64 0,.string ByteArray.empty,.string ByteArray.empty,.bool false,.string ByteArray.empty,.int .u64 0,.int .u64 0,.int .i64 0,.int .i64 0,.int .i64 0,.int .i64 0]),11,112):=by kernel_rfl
theorem qzr{ops:Array Oper}{rest:List Oper}{o:Oper}{a:Act}{Q:Exit->Act->World->Prop}(w:World)(hgd:o.guard=none)(s x:Operand)
 (ho:o.op=.call {callee:=.builtin .append,args:=#[s,x],argTypes:=#[377,377]}) {lo:Nat} {A:Option Addr} {c:Nat} {l:List ChgC} (hs:a.eval s=.slice A l.length c) (own:Own ChgC.enc 376 11 w lo A c l)
 {B:Nat} {A2:Option Addr} {m:List ChgC} (c2:Nat) (hx:a.eval x=.slice A2 m.length c2) (arr:Arr ChgC.enc 11 w B A2 m) (hb:l.length+m.length<=100000) (hlo:lo<=w.heap.size)
 (h:∀A' c' w',Own ChgC.enc 376 11 w' lo A' c' (l++m)->w.grownBy w' (qa8 A c)->(A'=A/\c'=c\/∃g,A'=some ⟨g,0,none⟩/\w.heap.size<=g)->wpList prog ops Q rest (a.put o.dst (.slice A' (l.length+m.length) c')) w'):
 wpList prog ops Q (o::rest) a w:=by
 obtain⟨i0,hi,hz0,hz1,hz2⟩:=info_parts qwd;exact qar w hgd s x 377 ho i0 _ 112 underlying377 hi hz0 hz1 hz2 rfl (by decide) ChgC.enc_len ChgC.enc_one hs own c2 hx arr (by unfold maxLen;omega) (by omega) hlo h
theorem qr9{w:World}{p:Nat}{x:ChgC}{ty:TypeId}(h:w.heap[p]? =some (.cells x.enc.toArray ty (0,0))):Arr ChgC.enc 11 w w.heap.size (some ⟨p,0,none⟩) [x]:=.inr ⟨p,0,rfl,qa0 h,qtn h⟩
theorem qaq(w:World)(x:Obj):(w.alloc x).heap[w.heap.size]? =some x:=(qa2 _ _ _).trans (if_pos rfl)
def chP(c:qa7)(p:qas):ChgC:=⟨c.kind,c.key,c.val,p.had,p.old,p.line,p.cls⟩
def chgs(d:FrD):List ChgC:=List.zipWith chP d.gr d.ps
theorem qki{d:FrD}{k:Nat}(h:k<(chgs d).length)(h1:k<d.gr.length)(h2:k<d.ps.length):(chgs d)[k]=chP d.gr[k] d.ps[k]:=List.getElem_zipWith ..
theorem qAs{W W':World}{b i0 i1 i2:Nat}{v0 v1 v2:Value}(hb:Below W.heap.size W W')(h0:b<W.heap.size)
 (h:W.cell? ⟨b,i0,none⟩=some v0/\W.cell? ⟨b,i1,none⟩=some v1/\W.cell? ⟨b,i2,none⟩=some v2):
 W'.cell? ⟨b,i0,none⟩=some v0/\W'.cell? ⟨b,i1,none⟩=some v1/\W'.cell? ⟨b,i2,none⟩=some v2:=
 have k:∀o,W'.cell? ⟨b,o,none⟩=W.cell? ⟨b,o,none⟩:=λo=>hb.cell (p:=⟨b,o,none⟩) h0
 ⟨(k _).trans h.1,(k _).trans h.2.1,(k _).trans h.2.2⟩
section
variable {g:Own8}{w w':World}{lo a b t:Nat}{P:qag}{M:qa4}{ty:TypeId}{f:qa5}{d:FrD}
def qyd(M:qa4)(f:qa5)(d:FrD)(M':qa4)(f':qa5)(d':FrD):Prop:=∃code M1,PubR M f.ep (chgs d) code M1 /\
 ((code=0/\∃S' ps' A c,S'.length=M1.S.length/\M'= {M1 with S:=S'}/\ps'.length=d.ps.length/\f'= {f with hA:=A,hn:=(chgs d).length,hc:=c,aep:=f.ep,phase:=6}/\d'= {d with ps:=ps',hs:=(chgs d).map hadB}) \/
  (code=8/\M'=M1/\∃ps',ps'.length=d.ps.length/\f'= {f with ep:=M1.now,at':=0,pos:=ByteArray.empty,past:=false,phase:=1}/\d'= {d with ps:=ps'}) \/
  (code≠0/\code≠8/\f'= {f with code:=code,phase:=6}/\∃S' ps',S'.length=M1.S.length/\M'= {M1 with S:=S'}/\ps'.length=d.ps.length/\d'= {d with ps:=ps'}))
theorem WSt.newHits(h:WSt g w lo a P M b t ty f d){A:Option Addr}{c n':Nat}{hs':List Bool}(hown:Own bitE 4 1 w lo A c hs')(hri:qc8 g 0 A c)(hn:n'=hs'.length):WSt g (w.setCell ⟨b,28,none⟩ (.slice A n' c)) lo a P M b t ty {f with hA:=A,hn:=n',hc:=c} {d with hs:=hs'}:=by
 have hne:=h.hty.ne;have hk:∀j,j≠b->(w.setCell ⟨b,28,none⟩ (.slice A n' c)).heap[j]? =w.heap[j]? :=λj hj=>Below.heap_setCell _ _ _ _ hj
 have hz:w.heap.size<=(w.setCell ⟨b,28,none⟩ (.slice A n' c)).heap.size:=by rw[World.size_setCell];exact Nat.le_refl _
 exact⟨h.ar.set0 h.gb 28 _,h.box.set 28 _ _ rfl,h.gb,h.hty,h.grp.keep hz (λj _ _ hj _=>hk j hj) λ_ _=>rfl,
  h.byt.keep (λj _ _ hr=>hk j λe=>h.byt.1.notBox h.box hne.1 (e ▸ hr)) λ_ _=>rfl,
  h.prt.keep (λj _ _ hr=>hk j λe=>h.prt.1.notBox h.box hne.2.1 (e ▸ hr)) λ_ _=>rfl,
  RowG.keep (g:=g) (w:=w) ⟨hown,hn,hri⟩ (λj _ _ hr=>hk j λe=>hown.notBox h.box hne.2.2 (e ▸ hr)) λ_ _=>rfl⟩
theorem qkc(h:WSt g w lo a P M b t ty f d){n th:Nat}(hok:OkA M n th)(hn:n<=40000)(ht:t<th)(hgp:d.ps.length=d.gr.length)(hb3:d.ps.length<=1000)(hsz:∀x∈d.gr,x.key.size<=1000000/\x.val.size<=1000000)(hlo:lo<=w.heap.size):
 Calls prog 204 #[.pointer (some ⟨b,0,none⟩)] w (qal lo a P b t ty (qyd M f d) g w):=by
 have hcl:(chgs d).length=d.gr.length:=by unfold chgs;rw[List.length_zipWith];omega
 have H:=hid h;have HCL:=hid hcl;have HLO:=hid hlo;have HB3:=hid (And.intro hgp hb3);have HTP:Hid (∀W A c,Below w.heap.size w W->Own ChgC.enc 376 11 W w.heap.size A c (chgs d)->Calls prog 248 #[.pointer (some ⟨a,0,none⟩),.int .i64 (t:Int),.int .u64 (f.ep:Int),.slice A d.gr.length c] W (qi5 a P M f.ep (chgs d) g W)):=hid λW A c hW hown=>by
  rw[<-hcl];refine qfr (h.below hW).ar hok hn ht f.ep (chgs d) A c (hown.arr ChgC.enc_len) ?_ hown.1 hown.2.1 (λx hx=>?_)
  · rcases hown.2.2 with h0|⟨b',off,cur,hA,hlo',_⟩
    · left
      have:=hown.1;exact List.eq_nil_of_length_eq_zero (by omega)
    · exact .inr ⟨b',off,hA,h.ar.far b' hlo'⟩
  · obtain⟨i,hi,rfl⟩:=List.getElem_of_mem hx
    have hi':i<d.gr.length:=by omega
    rw[qki hi hi' (by omega)];exact hsz _ (List.getElem_mem hi')
 have c6:=h.box.c 6 rfl;rw[h.grp.1.2.1]at c6;have hl:=h.box.lt;clear h hok hsz hcl hgp hb3 hlo;go_enter func204,ntmps204;go_upto_region 3 with fail;go_loopw [3,20] (λv3 v20 wr=>∃(k:Nat) (A:Option Addr) (c:Nat),k<=d.gr.length/\v20=.int .i64 k/\v3=.slice A k c/\Own ChgC.enc 376 11 wr w.heap.size A c ((chgs d).take k)/\Below w.heap.size w wr) (λ_ v20 _=>d.gr.length-(intOf v20).toNat)
 case atStart=>exact⟨0,none,0,Nat.zero_le _,rfl,rfl,Own.none_,Below.refl _ _⟩
 case round =>
  obtain⟨k,A,c,hkl,rfl,rfl,hown,hbr⟩:=hrel;have HOW:=hid hown;have HBR:=hid hbr;by_cases hlt:k<d.gr.length
  · have h1:=H.out.below hbr
    have hk1:k<d.ps.length:=by rw[HB3.out.1];exact hlt
    have hk1000:k<=1000:=by have:=HB3.out;omega
    have i1:(0:Int)<=(k:Int):=by omega
    have i2:(k:Int)<(d.gr.length:Int):=by omega
    have i3:(k:Int)<(d.ps.length:Int):=by omega
    obtain⟨pt,hpt⟩:∃pt,pt=d.ps[k]:=⟨_,rfl⟩;obtain⟨cl,hc⟩:∃c,c=d.gr[k]:=⟨_,rfl⟩;have c23:=h1.box.c 23 rfl;rw[h1.prt.2.1]at c23;have hl:=h1.box.lt;obtain⟨x,off,hA,hx,k0,k1,k2,k3,k4⟩:=h1.grp.1.1.call0 hlt;obtain⟨pb,po,hpA⟩:∃pb po,f.pA=some ⟨pb,po,none⟩:=by
     rcases h1.prt.1.arr qas.enc_len with h0|⟨pb,po,h1,_⟩
     · rw[h0]at hk1;simp at hk1
     · exact⟨pb,po,h1⟩
    obtain⟨hpl,hplo,hpb,hpc,hpf⟩:=h1.part hpA hk1;rw[<-hpt]at hpc;rw[<-hc]at k0 k1 k2 k3 k4;have r0:wr.cell? ⟨pb,po+k*8,none⟩=some (.bool pt.had):=hpc 0 _ rfl;have r1:wr.cell? ⟨pb,po+k*8+1,none⟩=some (.string pt.old.key):=hpc 1 _ rfl;have r2:wr.cell? ⟨pb,po+k*8+2,none⟩=some (.int .u64 (pt.old.id:Int)):=hpc 2 _ rfl;have r3:wr.cell? ⟨pb,po+k*8+3,none⟩=some (.int .u64 (pt.old.ver:Int)):=hpc 3 _ rfl;have r4:wr.cell? ⟨pb,po+k*8+4,none⟩=some (.int .i64 pt.old.line):=hpc 4 _ rfl;have r5:wr.cell? ⟨pb,po+k*8+5,none⟩=some (.int .i64 pt.old.cls):=hpc 5 _ rfl;have r6:wr.cell? ⟨pb,po+k*8+6,none⟩=some (.int .i64 pt.line):=hpc 6 _ rfl;have r7:wr.cell? ⟨pb,po+k*8+7,none⟩=some (.int .i64 pt.cls):=hpc 7 _ rfl;rw[hpA]at c23;have HTK:=hid (show(chgs d).take (k+1)=(chgs d).take k++[chP cl pt]by
     have hk2:k<(chgs d).length:=by rw[HCL.out];exact hlt
     rw[List.take_succ_eq_append_getElem hk2]
     rw[qki hk2 hlt hk1,hc,hpt])
    have HLK:=hid (show((chgs d).take k).length=k by rw[List.length_take,HCL.out];omega);have HPB:=hid (And.intro hpl hpb);clear h1 hpt hc hpc hpf hown hbr hpb;rw[hA];clear hA hpA c6;go_upto_region 6 with fail;generalize hw4:World.alloc _ _=w4;have R5:w4.heap[wr.heap.size]? =some (.cells cl.enc.toArray 40 (0,0)):=by rw[<-hw4];exact(Below.heap_alloc _ _ _ (by simp)).trans (qaq _ _)
    have R6:w4.heap[wr.heap.size+1]? =some (.cells pt.enc.toArray 330 (0,0)):=by rw[<-hw4];exact(qa2 _ _ _).trans (if_pos (by simp))
    have b4:Below w.heap.size w w4:=by rw[<-hw4];exact(HBR.out.alloc HBR.out.size _).alloc (by simp;have:=HBR.out.size;omega) _
    have b4':Below wr.heap.size wr w4:=by rw[<-hw4];exact((Below.refl _ _).alloc (Nat.le_refl _) _).alloc (by simp) _
    obtain⟨vb,hvb⟩:∃vb,vb=wr.heap.size:=⟨_,rfl⟩;rw[<-hvb]at R5 R6 ⊢;have q0:w4.cell? ⟨vb,0,none⟩=some (.int .i64 cl.kind):=cell_of_row w4 _ 0 _ _ _ R5;have q1:w4.cell? ⟨vb,1,none⟩=some (.string cl.key):=cell_of_row w4 _ 1 _ _ _ R5;have q2:w4.cell? ⟨vb,2,none⟩=some (.string cl.val):=cell_of_row w4 _ 2 _ _ _ R5;have r0:w4.cell? ⟨vb+1,0,none⟩=some (.bool pt.had):=cell_of_row w4 _ 0 _ _ _ R6;have r1:w4.cell? ⟨vb+1,1,none⟩=some (.string pt.old.key):=cell_of_row w4 _ 1 _ _ _ R6;have r2:w4.cell? ⟨vb+1,2,none⟩=some (.int .u64 (pt.old.id:Int)):=cell_of_row w4 _ 2 _ _ _ R6;have r3:w4.cell? ⟨vb+1,3,none⟩=some (.int .u64 (pt.old.ver:Int)):=cell_of_row w4 _ 3 _ _ _ R6;have r4:w4.cell? ⟨vb+1,4,none⟩=some (.int .i64 pt.old.line):=cell_of_row w4 _ 4 _ _ _ R6;have r5:w4.cell? ⟨vb+1,5,none⟩=some (.int .i64 pt.old.cls):=cell_of_row w4 _ 5 _ _ _ R6;have r6:w4.cell? ⟨vb+1,6,none⟩=some (.int .i64 pt.line):=cell_of_row w4 _ 6 _ _ _ R6;have r7:w4.cell? ⟨vb+1,7,none⟩=some (.int .i64 pt.cls):=cell_of_row w4 _ 7 _ _ _ R6;have hl5:=qa0 R5;have hl6:=qa0 R6;have HO4:=hid (HOW.out.below b4');have HB4:=hid b4;obtain⟨L,hL⟩:∃L,L=(chgs d).take k:=⟨_,rfl⟩;rw[<-hL]at HTK HO4 HLK;clear hvb hw4 R5 R6 b4 b4' k0 k1 k2 k3 k4 c23 HOW HBR hx HPB hL;go_wp2_with(at_builtin;refine qzr (l:=L) (m:=[chP cl pt]) (A:=A) (c:=c) (lo:=w.heap.size) _ rfl (.tmp 32) (.tmp 48) rfl (by rw[HLK.out];simp[Act.eval]) (HO4.out.alloc _) (A2:=some ⟨w4.heap.size,0,none⟩) 1 (by simp[Act.eval]) (qr9 (x:=chP cl pt) (by rw[qa2,if_pos rfl];rfl)) (by rw[HLK.out];simp;have:=HB3.out;omega) (by have:=HB4.out.size;simp;omega) ?_;intro A5 c5 w5 hown hgr hloc);have b5:Below w.heap.size w w5:=(HB4.out.alloc HB4.out.size _).grown hgr (by have:=HB4.out.size;simp;omega) (λj hj=>qe4 HO4.out j hj);exact⟨⟨k+1,A5,c5,by omega,by go_num,by rw[HLK.out],by rw[HTK.out];exact hown,b5⟩,by simp[intOf];omega⟩
  · obtain rfl:k=d.gr.length:=by omega
    have HOW1:Hid (Own ChgC.enc 376 11 wr w.heap.size A c (chgs d)):=hid (by
     have:=HOW.out
     rwa [List.take_of_length_le (by rw[HCL.out];exact Nat.le_refl _)]at this)
    obtain⟨w1,hw1⟩:∃x,x=wr:=⟨_,rfl⟩;subst hw1;have h1:=H.out.below hbr;have c0:=h1.c0;have c1:=h1.c1;have c8:=h1.box.c 8 rfl;have hl:=h1.box.lt;have HLO1:=hid (show lo<=w1.heap.size by have:=hbr.size;have:=HLO.out;omega);have HC0:=hid (And.intro c0 (And.intro c1 c8));have H1:=hid h1;have HE1:Hid (ExtB lo b g g w w1):=hid (ExtB.below hbr);have HTQ:Hid (∀W,Below w1.heap.size w1 W->Calls prog 248 #[.pointer (some ⟨a,0,none⟩),.int .i64 (t:Int),.int .u64 (f.ep:Int),.slice A d.gr.length c] W (qi5 a P M f.ep (chgs d) g W)):=hid λW hW=>HTP.out W A c (HBR.out.trans (hW.mono HBR.out.size)) (HOW1.out.below hW)
    clear hown hkl hlt HOW hbr HBR HOW1 h1 HTP c6 H;go_upto_region 8 with fail;go_cut [7,8] (λv7 v8 wx=>∃A3 m3 c3 code M1 g3,v7=.slice A3 m3 c3/\v8=.int .i64 code/\PubR M f.ep (chgs d) code M1/\WSt g3 wx lo a P M1 b t ty f d/\ExtB lo b g g3 w1 wx/\(code=0->m3=(chgs d).length/\Own bitE 4 1 wx lo A3 c3 ((chgs d).map hadB)/\qc8 g3 0 A3 c3))
    case first =>
     go_region_held3 (λW=>W.cell? ⟨b,0,none⟩=some (.pointer (some ⟨a,0,none⟩))/\W.cell? ⟨b,1,none⟩=some (.int .i64 (t:Int))/\W.cell? ⟨b,8,none⟩=some (.int .u64 (f.ep:Int))) (first|(with_reducible exact HSK)|(with_reducible refine qAs (W:=w1) ?_ hl HC0.out;(repeat(first|with_reducible exact Below.refl _ _|with_reducible assumption|with_reducible refine Below.drew ?_|with_reducible refine qa1 ?_ _));done)|go_keep) (first|(go_at_call 248;refine(HTQ.out _ ?_).mono ?_;exact(by with_reducible repeat(first|exact Below.refl _ _|assumption|refine Below.drew ?_|refine qa1 ?_ _|refine Below.alloc ?_ (by first|omega|simp <;> omega) _|refine Below.setCell ?_ (by first|omega|simp <;> omega) _));rintro r w3⟨A3,m3,c3,code,M1,g3,rfl,hpr,AR3,E3,hon⟩;have HPR:=hid hpr;have HON:Hid (code=0->m3=(chgs d).length/\Own bitE 4 1 w3 lo A3 c3 ((chgs d).map hadB)/\qc8 g3 0 A3 c3):=hid (λe=>⟨(hon e).1,(hon e).2.1.lower (lo':=lo) (by first|exact HLO1.out|(simp;exact HLO1.out)),(hon e).2.2⟩);have HW3:=hid ((H1.out.below (by with_reducible repeat(first|exact Below.refl _ _|assumption|refine Below.drew ?_|refine qa1 ?_ _|refine Below.alloc ?_ (by first|omega|simp <;> omega) _|refine Below.setCell ?_ (by first|omega|simp <;> omega) _))).ext AR3 E3);have HE3:=hid ((show ExtB lo b g g w1 _ from ExtB.below (by with_reducible repeat(first|exact Below.refl _ _|assumption|refine Below.drew ?_|refine qa1 ?_ _|refine Below.alloc ?_ (by first|omega|simp <;> omega) _|refine Below.setCell ?_ (by first|omega|simp <;> omega) _))).trans (.of_ext E3));have HSK:=(show w3.cell? ⟨b,0,none⟩=some (.pointer (some ⟨a,0,none⟩))/\w3.cell? ⟨b,1,none⟩=some (.int .i64 (t:Int))/\w3.cell? ⟨b,8,none⟩=some (.int .u64 (f.ep:Int))from⟨HW3.out.c0,HW3.out.c1,HW3.out.box.c 8 rfl⟩);clear hpr hon AR3 E3));all_goals
      go_wp2_with fail;go_meet;refine⟨A3,m3,c3,code,M1,g3,rfl,rfl,HPR.out,?_,?_,?_⟩
      · first|exact HW3.out|exact HW3.out.drew|exact HW3.out.drewN _
      · first|exact HE3.out|exact HE3.out.trans (ExtB.below (Below.refl _ _).drew)|exact HE3.out.trans (ExtB.below (qa1 (Below.refl _ _) _))
      · first|exact HON.out|exact λe=>⟨(HON.out e).1,(HON.out e).2.1.drew,(HON.out e).2.2⟩|exact λe=>⟨(HON.out e).1,(HON.out e).2.1.below (by with_reducible repeat(first|exact Below.refl _ _|assumption|refine Below.drew ?_|refine qa1 ?_ _|refine Below.alloc ?_ (by first|omega|simp <;> omega) _|refine Below.setCell ?_ (by first|omega|simp <;> omega) _)),(HON.out e).2.2⟩
    obtain⟨A3,m3,c3,code,M1,g3,rfl,rfl,hpr,h3,e3,hon⟩:=hcut;obtain⟨w3,hw3⟩:∃x,x=wc:=⟨_,rfl⟩;subst hw3;have HPR:=hid hpr;have HON:=hid hon;have H3:=hid h3;have HE3:=hid (HE1.out.trans e3);clear hpr hon h3 e3 HTQ HC0 H1 HE1 c0 c1 c8 hl;by_cases h0:code=0
    · subst h0
      obtain⟨hm3,hown,hri⟩:=HON.out rfl;have HOWN:=hid hown;have HRI:=hid hri;have HM3:=hid hm3;have f28:=H3.out.box.fr 28;have f29:=H3.out.box.fr 29;have f7:=H3.out.box.fr 7;have c28:=H3.out.box.c 28 rfl;have c29:=H3.out.box.c 29 rfl;have c7:=H3.out.box.c 7 rfl;have c8:=H3.out.box.c 8 rfl;have hl:=H3.out.box.lt;clear hown hri hm3 HON;go_upto_region 14 with fail;generalize hw4:World.setCell _ _ _=w4;obtain⟨f4,hf4⟩:∃f4:qa5,f4= {f with hA:=A3,hn:=m3,hc:=c3,aep:=f.ep,phase:=6}:=⟨_,rfl⟩;obtain⟨d4,hd4⟩:∃d4:FrD,d4= {d with hs:=(chgs d).map hadB}:=⟨_,rfl⟩;have H4:Hid (WSt g3 w4 lo a P M1 b t ty f4 d4):=hid (by
       rw[<-hw4,hf4,hd4]
       exact(((H3.out.newHits HOWN.out HRI.out (n':=m3) (by rw[List.length_map];exact HM3.out)).set 29 (.int .u64 (f.ep:Int)) {f with hA:=A3,hn:=m3,hc:=c3,aep:=f.ep} rfl ⟨rfl,rfl,rfl,rfl⟩).set 7 (.int .i64 6) {f with hA:=A3,hn:=m3,hc:=c3,aep:=f.ep,phase:=6} rfl ⟨rfl,rfl,rfl,rfl⟩))
      have HE4:Hid (ExtB lo b g g3 w w4):=hid (by rw[<-hw4];exact((HE3.out.trans (ExtB.set 28 _)).trans (ExtB.set 29 _)).trans (ExtB.set 7 _));have hp4:d4.ps=d.ps:=by rw[hd4]
      have hg4:d4.gr=d.gr:=by rw[hd4]
      have HP4:=hid hp4;have HF4:=hid hf4;have HD4:=hid hd4;have TB:=hid (qg1 H4.out (by rw[hp4,hg4,HB3.out.1];exact Nat.le_refl _) (by rw[hp4];exact HB3.out.2) qAv);clear hw4 hp4 hg4 hf4 hd4 f28 f29 f7 c28 c29 c7 c8 hl H3 HE3 H4 HOWN HRI;go_wp2_with fail;refine TB.out.mono ?_;rintro r w5⟨rfl,M5,f5,d5,⟨rfl,S5,ps5,hS,rfl,hps,rfl⟩,g5,h5,e5⟩;have HS:=hid hS;have H5:=hid h5;have HE5:=hid (HE4.out.trans e5);rw[HP4.out]at hps;have HPS:=hid hps;have c23:=h5.box.c 23 rfl;rw[h5.prt.2.1]at c23;have e23:w5.cell? ⟨b,23,none⟩=some (.slice f5.pA d.ps.length f5.pc):=by rw[<-hps];exact c23
      have hl:=h5.box.lt;clear hS h5 e5 TB HE4 hps c23;go_upto_region 16 with fail;go_loopw [99] (λv99 wr=>∃(k:Nat) (ps':List qas),k<=d.ps.length/\v99=.int .i64 k/\ps'.length=d.ps.length/\WSt g5 wr lo a P {M1 with S:=S5} b t ty f5 {d4 with ps:=ps'}/\ExtB lo b g g5 w wr) (λv99 _=>d.ps.length-(intOf v99).toNat)
      case atStart=>exact⟨0,ps5,Nat.zero_le _,rfl,HPS.out,H5.out,HE5.out⟩
      case round =>
       obtain⟨k,ps6,hkl,rfl,hp6,h6,e6⟩:=hrel;have HP6:=hid hp6;have H6:=hid h6;have HE6:=hid e6;by_cases hlt:k<d.ps.length
       · have hk6:k<ps6.length:=by omega
         have hk1000:k<=1000:=by have:=HB3.out;omega
         have i1:(0:Int)<=(k:Int):=by omega
         have i2:(k:Int)<(d.ps.length:Int):=by omega
         obtain⟨pb,po,hpA⟩:∃pb po,f5.pA=some ⟨pb,po,none⟩:=by
          rcases h6.prt.1.arr qas.enc_len with h0|⟨pb,po,h1,_⟩
          · simp at h0;rw[h0]at hk6;simp at hk6
          · exact⟨pb,po,h1⟩
         have c23:=h6.box.c 23 rfl;rw[h6.prt.2.1]at c23;have e23:wr.cell? ⟨b,23,none⟩=some (.slice (some ⟨pb,po,none⟩) d.ps.length f5.pc):=by rw[<-hp6,<-hpA];exact c23
         obtain⟨hpl,hplo,hpb,hpc,hpf⟩:=h6.part hpA hk6;obtain⟨v6,p6⟩:∃v,wr.cell? ⟨pb,po+k*8+6,none⟩=some v:=⟨_,hpc 6 _ rfl⟩;have g6:=hpf (po+k*8+6);have hl:=h6.box.lt;have HSP:=hid (h6.setPart hpA hk6 (m:=6) (by omega) (.int .i64 (-1)) {ps6[k]with line:= -1} rfl);clear h6 e6 hpc hpf c23 hp6 hpA H6;go_wp2_with fail;exact⟨⟨k+1,_,by omega,by go_num,by rw[List.length_set];exact HP6.out,HSP.out.1,HE6.out.trans HSP.out.2⟩,by simp[intOf];omega⟩
       · obtain rfl:k=d.ps.length:=by omega
         clear hkl hlt h6 e6 hp6;go_wp2_with fail;refine bodyPost_ret (v:=.tuple #[]) (by simp[results,results204]) rfl ⟨rfl,_,_,_,⟨0,M1,HPR.out,.inl ⟨rfl,S5,ps6,A3,c3,HS.out,rfl,HP6.out,by rw[HF4.out,HM3.out],by rw[HD4.out]⟩⟩,g5,H6.out,HE6.out⟩
    · have hb0:(code==0)=false:=by rw[beq_eq_false_iff_ne];exact h0
      have H0:=hid h0;clear h0 HON HLO1;by_cases h8:code=8
      · subst h8
        have c0:=H3.out.c0;have f7:=H3.out.box.fr 7;have f8:=H3.out.box.fr 8;have f9:=H3.out.box.fr 9;have f10:=H3.out.box.fr 10;have f22:=H3.out.box.fr 22;have c7:=H3.out.box.c 7 rfl;have c8:=H3.out.box.c 8 rfl;have c9:=H3.out.box.c 9 rfl;have c10:=H3.out.box.c 10 rfl;have c22:=H3.out.box.c 22 rfl;have c23:=H3.out.box.c 23 rfl;rw[H3.out.prt.2.1]at c23;have hl:=H3.out.box.lt;have TC:=hid (qcr H3.out.ar);have TN:=hid (qgy H3.out.ar);clear hb0;go_wp2_with fail;refine TC.out.mono ?_;rintro e w4⟨rfl,rfl⟩;go_wp2_with fail;refine TN.out.mono ?_;rintro e w5⟨rfl,rfl⟩;go_upto_region 23 with fail;generalize hw6:World.setCell _ _ _=w6;obtain⟨f6,hf6⟩:∃f6:qa5,f6= {f with ep:=M1.now,at':=0,pos:=ByteArray.empty,past:=false,phase:=1}:=⟨_,rfl⟩;have H6:Hid (WSt g3 w6 lo a P M1 b t ty f6 d):=hid (by
         rw[<-hw6,hf6]
         exact((((H3.out.set 8 (.int .u64 (M1.now:Int)) {f with ep:=M1.now} rfl ⟨rfl,rfl,rfl,rfl⟩).set 22 (.int .i64 0) {f with ep:=M1.now,at':=0} rfl ⟨rfl,rfl,rfl,rfl⟩).set 9 (.string ByteArray.empty) {f with ep:=M1.now,at':=0,pos:=ByteArray.empty} rfl ⟨rfl,rfl,rfl,rfl⟩).set 10 (.bool false) {f with ep:=M1.now,at':=0,pos:=ByteArray.empty,past:=false} rfl ⟨rfl,rfl,rfl,rfl⟩).set 7 (.int .i64 1) {f with ep:=M1.now,at':=0,pos:=ByteArray.empty,past:=false,phase:=1} rfl ⟨rfl,rfl,rfl,rfl⟩)
        have HE6:Hid (ExtB lo b g g3 w w6):=hid (by rw[<-hw6];exact((((HE3.out.trans (ExtB.set 8 _)).trans (ExtB.set 22 _)).trans (ExtB.set 9 _)).trans (ExtB.set 10 _)).trans (ExtB.set 7 _));have HF6:=hid hf6;have c23:=H6.out.box.c 23 rfl;rw[H6.out.prt.2.1]at c23;have hl:=H6.out.box.lt;clear hw6 hf6 H3 HE3 TC TN c0 c7 c8 c9 c10 c22 f7 f8 f9 f10 f22;go_upto_region 24 with fail;go_loopw [138] (λv138 wr=>∃(k:Nat) (ps':List qas),k<=d.ps.length/\v138=.int .i64 k/\ps'.length=d.ps.length/\WSt g3 wr lo a P M1 b t ty f6 {d with ps:=ps'}/\ExtB lo b g g3 w wr) (λv138 _=>d.ps.length-(intOf v138).toNat)
        case atStart=>exact⟨0,d.ps,Nat.zero_le _,rfl,rfl,H6.out,HE6.out⟩
        case round =>
         obtain⟨k,ps7,hkl,rfl,hp7,h7,e7⟩:=hrel;have HP7:=hid hp7;have H7:=hid h7;have HE7:=hid e7;by_cases hlt:k<d.ps.length
         · have hk7:k<ps7.length:=by omega
           have hk1000:k<=1000:=by have:=HB3.out;omega
           have i1:(0:Int)<=(k:Int):=by omega
           have i2:(k:Int)<(d.ps.length:Int):=by omega
           obtain⟨pb,po,hpA⟩:∃pb po,f6.pA=some ⟨pb,po,none⟩:=by
            rcases h7.prt.1.arr qas.enc_len with h0|⟨pb,po,h1,_⟩
            · simp at h0;rw[h0]at hk7;simp at hk7
            · exact⟨pb,po,h1⟩
           have c23:=h7.box.c 23 rfl;rw[h7.prt.2.1]at c23;have e23:wr.cell? ⟨b,23,none⟩=some (.slice (some ⟨pb,po,none⟩) d.ps.length f6.pc):=by rw[<-hp7,<-hpA];exact c23
           obtain⟨hpl,hplo,hpb,hpc,hpf⟩:=h7.part hpA hk7;obtain⟨x,hx⟩:∃x,x=ps7[k]:=⟨_,rfl⟩;have r0:wr.cell? ⟨pb,po+k*8,none⟩=some (.bool x.had):=by rw[hx];exact hpc 0 _ rfl
           have r1:wr.cell? ⟨pb,po+k*8+1,none⟩=some (.string x.old.key):=by rw[hx];exact hpc 1 _ rfl
           have r2:wr.cell? ⟨pb,po+k*8+1+1,none⟩=some (.int .u64 (x.old.id:Int)):=by rw[hx];exact hpc 2 _ rfl
           have r3:wr.cell? ⟨pb,po+k*8+1+2,none⟩=some (.int .u64 (x.old.ver:Int)):=by rw[hx];exact hpc 3 _ rfl
           have r4:wr.cell? ⟨pb,po+k*8+1+3,none⟩=some (.int .i64 x.old.line):=by rw[hx];exact hpc 4 _ rfl
           have r5:wr.cell? ⟨pb,po+k*8+1+4,none⟩=some (.int .i64 x.old.cls):=by rw[hx];exact hpc 5 _ rfl
           have g0:=hpf (po+k*8);have g1:=hpf (po+k*8+1);have g2:=hpf (po+k*8+1+1);have g3':=hpf (po+k*8+1+2);have g4:=hpf (po+k*8+1+3);have g5:=hpf (po+k*8+1+4);have hl:=h7.box.lt;have hsf:=qjt (l:=ps7) hk7 hx.symm;have HSP:=hid (WSt.setHit (d:={d with ps:=ps7}) (x:=x) (by rw[show({d with ps:=ps7}:FrD).ps.set k x=ps7 from hsf];exact h7) hpA hk7 false qak);clear h7 e7 hpc hpf c23 hp7 hpA H7 hx hsf;go_wp2_with fail;go_region;generalize hw8:World.setCell _ _ _=w8;have h8:WSt g3 w8 lo a P M1 b t ty f6 {d with ps:=ps7.set k {x with had:=false,old:=qak}}:=by rw[<-hw8];exact HSP.out.1
           have e8:=HE7.out.trans (show ExtB lo b g3 g3 wr w8 by rw[<-hw8];exact HSP.out.2);have HH8:=hid h8.drew;have HE8:=hid (e8.trans (ExtB.below (Below.refl _ _).drew));clear hw8 HSP h8 e8 r0 r1 r2 r3 r4 r5 g0 g1 g2 g3' g4 g5 e23 HE7;go_wp2_with fail;exact⟨⟨k+1,_,by omega,by go_num,by rw[List.length_set];exact HP7.out,HH8.out,HE8.out⟩,by simp[intOf];omega⟩
         · obtain rfl:k=d.ps.length:=by omega
           clear hkl hlt h7 e7 hp7;go_wp2_with fail;refine bodyPost_ret (v:=.tuple #[]) (by simp[results,results204]) rfl ⟨rfl,_,_,_,⟨8,M1,HPR.out,.inr (.inl ⟨rfl,rfl,ps7,HP7.out,HF6.out,rfl⟩)⟩,_,H7.out,HE7.out⟩
      · have hb8:(code==8)=false:=by rw[beq_eq_false_iff_ne];exact h8
        have H8:=hid h8;have TB:=hid (qg1 H3.out (by rw[HB3.out.1];exact Nat.le_refl _) HB3.out.2 qAw);clear h8;go_wp2_with fail;refine TB.out.mono ?_;rintro r w5⟨rfl,M5,f5,d5,⟨rfl,S5,ps5,hS,rfl,hps,rfl⟩,g5,h5,e5⟩;have HS:=hid hS;have HPS:=hid hps;have HE5:=hid (HE3.out.trans e5);have hl:=h5.box.lt;have TF:=hid (qcb h5 code);clear hS hps h5 e5 TB H3 HE3;go_wp2_with fail;refine TF.out.mono ?_;rintro e w6⟨rfl,hto⟩;have HTO:=hid hto;clear hto TF;go_wp2_with fail;exact bodyPost_ret (v:=.tuple #[]) (by simp[results,results204]) rfl ⟨rfl,_,_,_,⟨code,M1,HPR.out,.inr (.inr ⟨H0.out,H8.out,rfl,S5,ps5,HS.out,rfl,HPS.out,rfl⟩)⟩,WTo.trans HE5.out HTO.out⟩
end
end
section
open Go.RowKit
theorem qop(w:World):(callFunc 230 #[]).run prog w=.ok (.value (.tuple #[])) w:=run_call_mark0 func230 (by kernel_rfl) (by kernel_rfl) (by kernel_rfl) .disable (by kernel_rfl) w
theorem qs8(w:World):(callFunc 232 #[]).run prog w=.ok (.value (.tuple #[])) w:=run_call_mark0 func232 (by kernel_rfl) (by kernel_rfl) (by kernel_rfl) .enable (by kernel_rfl) w
theorem qvu(a:Addr)(w:World):(callFunc 233 #[.pointer (some a)]).run prog w=.ok (.value (.tuple #[])) w:=run_call_marked func233 (by kernel_rfl) (by kernel_rfl) (by kernel_rfl) .acquire (by kernel_rfl) a w
theorem qAd(a:Addr)(w:World):(callFunc 235 #[.pointer (some a)]).run prog w=.ok (.value (.tuple #[])) w:=run_call_marked func235 (by kernel_rfl) (by kernel_rfl) (by kernel_rfl) .releaseMerge (by kernel_rfl) a w
theorem qAc(a:Addr)(x:Value)(u:FrameMode)(w:World)(hc:w.cell? a=some x)(hz:w.frozen? a=false):
 CallsD prog 137 #[.pointer (some a),.bool true] u w λe u' w'=>u'=u/\(e=.returned (.tuple #[])/\w'=w.drew.setCell a (.int .u32 1)):=by
 have hc':w.drew.cell? a=some x:=by go_simp
 have hz':w.drew.frozen? a=false:=by go_simp
 have hst:=run_call_store (P:=prog) func178 (by kernel_rfl) (by kernel_rfl) (by kernel_rfl) (by kernel_rfl) (k:=.u32) (y:=1) hc' hz';go_enter_d func137,ntmps137;go_wp2;go_region_calls;all_goals(go_end0;exact⟨rfl,rfl⟩)
theorem qvt(a:Addr)(w:World)(hc:w.cell? a=some (.int .i32 1))(hz:w.frozen? a=false):
 Calls prog 177 #[.pointer (some a)] w λe w'=>(e=.returned (.tuple #[])/\w'=w.setCell a (.int .i32 0)):=by
 have hd:=qop;have he:=qs8;have hr:=qAd;have hadd:=run_call_add (P:=prog) func236 (by kernel_rfl) (by kernel_rfl) (by kernel_rfl) .i32 (by kernel_rfl) (y:= -1) (s:=0) hc hz (by simp[go_sem];rfl);have hcv:=run_convert_to_unsafe (P:=prog) (src:=353) (dst:=357) underlying353 underlying357 (by kernel_rfl) hc;go_enter func177,ntmps177;go_wp2;go_end0;exact⟨rfl,rfl⟩
theorem qyv(b o:Nat)(u:FrameMode)(w:World)(hc:w.cell? ⟨b,o,none⟩=some (.int .i32 1))(hz:w.frozen? ⟨b,o,none⟩=false):
 CallsD prog 136 #[.pointer (some ⟨b,o,none⟩)] u w λe u' w'=>u'=u/\(e=.returned (.tuple #[])/\w'=w.setCell ⟨b,o,none⟩ (.int .i32 0)):=by
 have TU:=qvt ⟨b,o,none⟩ w hc hz;go_enter_d func136,ntmps136;go_wp2_with(go_at_call 177;refine TU.mono ?_;rintro e w'⟨rfl,rfl⟩);go_end0;exact⟨rfl,rfl⟩
theorem qAe(a:Addr)(w:World)(hc:w.cell? a=some (.int .i32 0))(hz:w.frozen? a=false):
 Calls prog 176 #[.pointer (some a)] w λe w'=>(e=.returned (.tuple #[])/\w'=w.setCell a (.int .i32 1)):=by
 have hd:=qop;have he:=qs8;have ha:=qvu;have hcas:=run_call_cas_hit (P:=prog) func231 (by kernel_rfl) (by kernel_rfl) (by kernel_rfl) .i32 (by kernel_rfl) (y:=1) hc hz;have hc':(w.setCell a (.int .i32 1)).cell? a=some (.int .i32 1):=World.cell?_setCell_same w a _ hc;have hcv:=run_convert_to_unsafe (P:=prog) (src:=353) (dst:=357) underlying353 underlying357 (by kernel_rfl) hc';go_enter func176,ntmps176;go_wp2;first|go_end0|(simp only[Exit.inBlock,Exit.then];refine bodyPost_ret (results_none rfl _ _ _) rfl ?_)|refine bodyPost_ret (results_none rfl _ _ _) rfl ?_
 exact⟨rfl,rfl⟩
theorem qBk(b o:Nat)(w:World)(hc:w.cell? ⟨b,o,none⟩=some (.int .i32 0))(hz:w.frozen? ⟨b,o,none⟩=false):
 Calls prog 135 #[.pointer (some ⟨b,o,none⟩)] w λe w'=>(e=.returned (.tuple #[])/\w'=w.setCell ⟨b,o,none⟩ (.int .i32 1)):=by
 have TU:=qAe ⟨b,o,none⟩ w hc hz;go_enter func135,ntmps135;go_wp2_with(go_at_call 176;refine TU.mono ?_;rintro e w'⟨rfl,rfl⟩);go_end0;exact⟨rfl,rfl⟩
theorem qAf(b o:Nat)(w:World)(h0:w.cell? ⟨b,o,none⟩=some (.int .u32 0)):Calls prog 102 #[.pointer (some ⟨b,o,none⟩)] w λe w'=>e=.returned (.bool false)/\w'=w:=by
 have hl:=run_call_load (P:=prog) func134 (by kernel_rfl) (by kernel_rfl) (by kernel_rfl) .u32 (by kernel_rfl) (a:=⟨b,o,none⟩) (x:=0) h0;go_enter func102,ntmps102;go_wp2_with fail;go_ret;exact⟨rfl,rfl⟩
def qkp(_w:World)(b o:Nat)(Q:World->Prop)(e:Ending)(w':World):Prop:=e=.returned (.tuple #[])/\Q w'/\w'.cell? ⟨b,o,none⟩=some (.int .u32 0)/\w'.cell? ⟨b,o+1,none⟩=some (.int .i32 1)/\w'.frozen? ⟨b,o,none⟩=false/\w'.frozen? ⟨b,o+1,none⟩=false
def qkq(b o:Nat)(Q:World->Prop)(e:Ending)(w':World):Prop:=e=.returned (.tuple #[])/\∃w1,Q w1/\w'=(w1.drew.setCell ⟨b,o,none⟩ (.int .u32 1)).setCell ⟨b,o+1,none⟩ (.int .i32 0)
theorem qBj(b o:Nat)(pl:Addr)(w:World)(Q:World->Prop)(_hb:b<w.heap.size)
 (h0:w.cell? ⟨b,o,none⟩=some (.int .u32 0)) (h1:w.cell? ⟨b,o+1,none⟩=some (.int .i32 0)) (_f0:w.frozen? ⟨b,o,none⟩=false) (f1:w.frozen? ⟨b,o+1,none⟩=false)
 (HC:Calls prog 78 #[.pointer (some pl)] (w.setCell ⟨b,o+1,none⟩ (.int .i32 1)) (qkp w b o Q)):
 Calls prog 103 #[.pointer (some ⟨b,o,none⟩),.func (.func 78) #[] #[.pointer (some pl)]] w (qkq b o Q):=by
 have TL:=qBk b (o+1) w h1 f1;have h0':(w.setCell ⟨b,o+1,none⟩ (.int .i32 1)).cell? ⟨b,o,none⟩=some (.int .u32 0):=(World.cell?_setCell_other _ ⟨b,o+1,none⟩ ⟨b,o,none⟩ _ (by simp)).trans h0;have TB:=qAf b o _ h0';have hnot:∀(x:Bool) (w:World),(Op.unary .not (.bool x)).run prog w=.ok (.bool (!x)) w:=λ_ _=>rfl
 go_enter_defers func103,ntmps103;go_wp2_with(go_at_call 135;refine TL.mono ?_;rintro e w'⟨rfl,rfl⟩);go_wp2_with fail;refine TB.mono ?_;rintro e w1⟨rfl,hw1⟩;rw[hw1];go_wp2_with(go_at_call 78;refine HC.mono ?_);rintro e w2⟨rfl,hQ,q0,q1,z0,z1⟩;go_wp2_with fail;refine leaves_cons (f:=137) (args:=#[.pointer (some ⟨b,o,none⟩),.bool true]) (by simp) (by simp[go_sem]) ?_;refine(qAc ⟨b,o,none⟩ (.int .u32 0) .returning _ q0 z0).mono ?_;rintro e u' w3⟨rfl,rfl,rfl⟩;refine leaves_cons (f:=136) (args:=#[.pointer (some ⟨b,o+1,none⟩)]) (by simp[settle]) (by simp[go_sem]) ?_;refine(qyv b (o+1) _ _ ?_ (by simp[z1])).mono ?_
 · refine(World.cell?_setCell_other _ ⟨b,o,none⟩ ⟨b,o+1,none⟩ _ (by simp)).trans ?_
   rw[World.cell?_drew];exact q1
 rintro e u' w4⟨rfl,rfl,rfl⟩;have hd:qkq b o Q (.returned (.tuple #[])) ((w2.drew.setCell ⟨b,o,none⟩ (.int .u32 1)).setCell ⟨b,o+1,none⟩ (.int .i32 0)):=⟨rfl,w2,hQ,rfl⟩;simpa[Leaves,settle,results,results103]using hd
theorem oDo(b o:Nat)(pl:Addr)(w:World)(Q:World->Prop)(hb:b<w.heap.size)
 (h0:w.cell? ⟨b,o,none⟩=some (.int .u32 0)) (h1:w.cell? ⟨b,o+1,none⟩=some (.int .i32 0)) (f0:w.frozen? ⟨b,o,none⟩=false) (f1:w.frozen? ⟨b,o+1,none⟩=false)
 (HC:Calls prog 78 #[.pointer (some pl)] (w.setCell ⟨b,o+1,none⟩ (.int .i32 1)) (qkp w b o Q)):
 Calls prog 77 #[.pointer (some ⟨b,o,none⟩),.func (.func 78) #[] #[.pointer (some pl)]] w (qkq b o Q):=by
 have TB:=qAf b o w h0;have TS:=qBj b o pl w Q hb h0 h1 f0 f1 HC;have hnot:∀(x:Bool) (w:World),(Op.unary .not (.bool x)).run prog w=.ok (.bool (!x)) w:=λ_ _=>rfl
 go_enter func77,ntmps77;go_wp2_with fail;refine TB.mono ?_;rintro e w1⟨rfl,hw1⟩;rw[hw1];go_wp2_with fail;refine TS.mono ?_;rintro e w2⟨rfl,hq⟩;go_wp2_with fail;exact bodyPost_ret (v:=.tuple #[]) (by simp[results,results77]) rfl ⟨rfl,hq⟩
def qj8(dp:Nat):List Value:=[.pointer (some ⟨dp,0,none⟩),.int .u32 0,.int .i32 0,.int .u32 0]
def qxu(lo vp dp dc n:Nat)(w:World)(e:Ending)(w':World):Prop:=e=.returned (.tuple #[])/\w'.cell? ⟨vp,0,none⟩=some (.pointer (some ⟨dp,0,none⟩))/\qbb w' lo dp dc (formed n)/\Below lo w w'/\∀b,b<w.heap.size->b≠vp->b≠dp->b≠dc->w'.heap[b]? =w.heap[b]?
theorem qbb.lt{w:World}{lo p dc:Nat}{D:List qab}(h:qbb w lo p dc D):p<w.heap.size/\dc<w.heap.size:=by
 obtain⟨k0,k1,k2,k3,k4,hb⟩:=h.box;refine⟨qa0 hb,?_⟩;have hl:=h.len;rcases h.rows.2.2 with h0|⟨b,off,cur,hA,_,hh,_⟩
 · omega
 · cases hA;exact qa0 hh
def FmtQ(lo vp dp dc n:Nat)(w w':World):Prop:=w'.heap[vp]? =some (.cells ((qj8 dp).set 2 (.int .i32 1)).toArray 139 (0,0))/\qbb w' lo dp dc (formed n)/\Below lo w w'/\∀b,b<w.heap.size->b≠vp->b≠dp->b≠dc->w'.heap[b]? =w.heap[b]?
theorem qt8(n:Nat)(w W:World)(lo vp dp dc q:Nat)(hq:W.cell? ⟨q,0,none⟩=some (.pointer (some ⟨vp,0,none⟩)))(hv:W.heap[vp]? =some (.cells ((qj8 dp).set 2 (.int .i32 1)).toArray 139 (0,0)))(hv1:vp≠dp)(hv2:vp≠dc)
 (h:qbb W lo dp dc (List.replicate n qbc)) (h1:10<=n) (h2:n<=258) (hb:Below lo w W) (hk:∀b,b<w.heap.size->b≠vp->b≠dp->b≠dc->W.heap[b]? =w.heap[b]?) (wz:World):
 Calls prog 78 #[.pointer (some ⟨q,0,none⟩)] W (qkp wz vp 1 (FmtQ lo vp dp dc n w)):=by
 have HV:=hid hv;have HB:=hid hb;have HK:=hid hk;have TF:=hid (qqh n W lo dp dc h h1 h2);have k0:W.cell? ⟨vp,0,none⟩=some (.pointer (some ⟨dp,0,none⟩)):=cell_of_row W vp 0 _ _ _ hv;have hl:=qa0 hv;clear h hb hv hk;go_enter func78,ntmps78;go_wp2_with fail;refine TF.out.mono ?_;rintro e w2⟨rfl,hd,ho⟩;have HD:=hid hd;have HO:=hid ho;clear hd ho;go_wp2_with fail;have R:=(HO.out.keep vp hl hv1 hv2).trans HV.out;refine bodyPost_ret (v:=.tuple #[]) (by simp[results,results78]) rfl ⟨rfl,⟨R,HD.out,HB.out.trans HO.out.below,λb hb' c1 c2 c3=>(HO.out.keep b (Nat.lt_of_lt_of_le hb' HB.out.size) c2 c3).trans (HK.out b hb' c1 c2 c3)⟩,cell_of_row w2 vp 1 _ _ _ R,cell_of_row w2 vp 2 _ _ _ R,frozen_of_row w2 vp 1 _ _ R,frozen_of_row w2 vp 2 _ _ R⟩
theorem qkd(n:Nat)(w:World)(lo vp dp dc:Nat)(hv:w.heap[vp]? =some (.cells (qj8 dp).toArray 139 (0,0)))(hlo:lo<=vp)(hlw:lo<=w.heap.size)(hv1:vp≠dp)(hv2:vp≠dc)(h:qbb w lo dp dc (List.replicate n qbc))(h1:10<=n)(h2:n<=258):
 Calls prog 50 #[.pointer (some ⟨vp,0,none⟩)] w (qxu lo vp dp dc n w):=by
 have hl:=qa0 hv;have bA:Below w.heap.size w (w.alloc (.cells #[.pointer (some ⟨vp,0,none⟩)] 114)):=(Below.refl _ _).alloc (Nat.le_refl _) _;generalize hwA:w.alloc (.cells #[.pointer (some ⟨vp,0,none⟩)] 114)=wA at bA;have RV:wA.heap[vp]? =some (.cells (qj8 dp).toArray 139 (0,0)):=qac bA hl hv;have RQ:wA.heap[w.heap.size]? =some (.cells #[.pointer (some ⟨vp,0,none⟩)] 114 (0,0)):=by rw[<-hwA];exact qaq _ _
 have hqv:w.heap.size≠vp:=by omega
 have hd1:=h.lt;have TC:=λwz=>qt8 n w (wA.setCell ⟨vp,2,none⟩ (.int .i32 1)) lo vp dp dc w.heap.size ((World.cell?_of_block (w:=wA) (Below.heap_setCell _ _ _ _ hqv)).trans (cell_of_row wA _ 0 _ _ _ RQ)) (qay RV 2 _) hv1 hv2
  (h.only (F:=λj=>j=vp\/w.heap.size<=j) (w':=wA.setCell ⟨vp,2,none⟩ (.int .i32 1)) ⟨bA.os,bA.tape,bA.output,by rw[World.size_setCell];exact bA.size,λj hj hn=>(Below.heap_setCell _ _ _ _ (λe=>hn (.inl e))).trans (bA.block j hj)⟩ (by omega) (by omega)) h1 h2 ((bA.mono hlw).setCell (p:=⟨vp,2,none⟩) hlo _) (λb hb c1 _ _=>(Below.heap_setCell _ _ _ _ c1).trans (bA.block b hb)) wz
 have TD:=hid (oDo vp 1 ⟨w.heap.size,0,none⟩ wA (FmtQ lo vp dp dc n w) (qa0 RV) (cell_of_row wA vp 1 _ _ _ RV) (cell_of_row wA vp 2 _ _ _ RV) (frozen_of_row wA vp 1 _ _ RV) (frozen_of_row wA vp 2 _ _ RV) (TC wA));have HWA:=hid hwA;have hmf:∀(fn:Fn) (first cap:Array Value) (w:World),(Instr.makeFunc fn first cap).run prog w=.ok (.func fn first cap) w:=λ_ _ _ _=>rfl
 clear h hv bA hwA RV RQ TC;go_enter func50,ntmps50;go_wp2_with fail;rw[HWA.out];refine TD.out.mono ?_;rintro e w2⟨rfl,w1,⟨R,hd,hb,hk⟩,rfl⟩;have HR:=hid R;have HD:=hid hd;have HB:=hid hb;have HK:=hid hk;clear R hd hb hk TD;go_wp2_with fail;have hd2:=HD.out.lt;refine bodyPost_ret (v:=.tuple #[]) (by simp[results,results50]) rfl ⟨rfl,?_,?_,?_,λb hb' c1 c2 c3=>?_⟩
 · exact cell_of_row _ vp 0 _ _ _ (qay (qay (w:=w1.drew) HR.out 1 (.int .u32 1)) 2 (.int .i32 0))
 · exact(HD.out.only (F:=λj=>j=vp) (w':=w1.drew) ⟨rfl,rfl,rfl,Nat.le_refl _,λ_ _ _=>rfl⟩ (by omega) (by omega)).only (F:=λj=>j=vp) ⟨rfl,rfl,rfl,by simp,λj _ hn=>(Below.heap_setCell _ _ _ _ hn).trans (Below.heap_setCell _ _ _ _ hn)⟩ (by omega) (by omega)
 · exact(HB.out.drew.setCell (p:=⟨vp,1,none⟩) hlo _).setCell (p:=⟨vp,1+1,none⟩) hlo _
 · exact((Below.heap_setCell _ _ _ _ c1).trans (Below.heap_setCell _ _ _ _ c1)).trans (HK.out b hb' c1 c2 c3)
end
section
open Go.RowKit
theorem qq4(w:World):Calls prog 75 #[] w λe w'=>e=.returned (.pointer (some ⟨w.heap.size,0,none⟩))/\Ord (λj=>j=w.heap.size) w' w.heap.size (λ_=>[])/\Below w.heap.size w w'/\w'.heap.size=w.heap.size+1:=by
 go_enter func75,ntmps75;go_wp2_with fail;go_ret;refine⟨rfl,⟨rfl,λ_=>none,λ_=>0,⟨λi hi=>?_,λi=>?_,λ_ _=>Own.none_,λ_ _=>.inl rfl,λ_ _ _ _ _ _ _ _ _ _=>.inl rfl⟩⟩,(by repeat(first|exact Below.refl _ _|assumption|refine Below.drew ?_|refine qa1 ?_ _|refine Below.alloc ?_ (by first|omega|simp <;> omega) _|refine Below.setCell ?_ (by first|omega|simp <;> omega) _)),by simp⟩
 · rw[World.cell?_alloc_at _ _ _ i rfl]
   rcases(by omega:i=0\/i=1\/i=2\/i=3)with rfl|rfl|rfl|rfl <;> rfl
 · exact World.frozen?_alloc_at _ _ _ i rfl
theorem RdAt.zero{w:World}{lo p rc now:Nat}{H:List Nat}(h:RdAt w lo p rc now H):RdAt w 0 p rc now H:=⟨h.box,h.rows,⟨Nat.zero_le _,Nat.zero_le _,h.lo.2.2⟩,h.len,h.now1⟩
theorem qbi.zero{w:World}{lo p oc now dur clo:Nat}{owed:List Int}{noted left:List Bool}{step:Value}(h:qbi w lo p oc now dur clo owed noted left step):qbi w 0 p oc now dur clo owed noted left step:=⟨h.box,h.rows,⟨Nat.zero_le _,Nat.zero_le _,h.lo.2.2⟩,h.len⟩
theorem qb8.zero{w:World}{lo p sc:Nat}{S:List qan}(h:qb8 w lo p sc S):qb8 w 0 p sc S:=⟨h.box,h.rows.lower (Nat.zero_le _),⟨Nat.zero_le _,Nat.zero_le _,h.lo.2.2⟩,h.len⟩
theorem qfi.zero{w:World}{lo p:Nat}{A:Option Addr}{c:Nat}{l:List EntC}(h:qfi w lo p A c l):qfi w 0 p A c l:=⟨h.box,h.rows.lower (Nat.zero_le _),Nat.zero_le _⟩
theorem qbo.zero{w:World}{lo p c at' n:Nat}{A:Option Addr}{L:List qa3}(h:qbo w lo p A c L at' n):qbo w 0 p A c L at' n:=⟨h.box,h.rows.lower (Nat.zero_le _),Nat.zero_le _,h.fit,h.nil⟩
theorem qbb.zero{w:World}{lo p dc:Nat}{D:List qab}(h:qbb w lo p dc D):qbb w 0 p dc D:=⟨h.box,h.rows.lower (Nat.zero_le _),⟨Nat.zero_le _,Nat.zero_le _,h.lo.2.2⟩,h.len⟩
def newP(dp dc s0 s1 s2 s3 s5 s6 s7:Nat):qag:=⟨s3,dp,dc,s2+1,s2,s0+1,s0,s1+1,s1,s3+1,s5,λi=>s5+1+i,s6,s7⟩
structure qjf(w:World)(dp dc n th s0 s1 s2 s3 s5 s6 s7 s8:Nat):Prop where
 le:s0+1<s1/\s1+1<s2/\s2+1<s3/\s3+1<s5/\s5<s6/\s6<s7/\s7<s8/\s8<w.heap.size
 rd:RdAt w 0 (s0+1) s0 1 (List.replicate th 0)
 clk:qbi w 0 (s1+1) s1 1 0 0 (List.replicate th 0) (List.replicate 258 false) (List.replicate 258 false) qhj
 pool:qb8 w 0 (s2+1) s2 (List.replicate ((n-2)/8) (qd3 (-1)))
 bag:qfi w 0 (s3+1) none 0 []
 tab:qbk (λj=>s5<=j/\j<s6) w s5 (λi=>s5+1+i) (λ_=>[])
 ord:Ord (λj=>j=s6) w s6 (λ_=>[])
 line:qbo w 0 s7 none 0 [] 0 0
 box:w.heap[s8]? =some (.cells (qje (newP dp dc s0 s1 s2 s3 s5 s6 s7) 0 0 none 0 0).toArray 127 (0,0))
theorem qjf.only{w w':World}{dp dc n th s0 s1 s2 s3 s5 s6 s7 s8:Nat}{F:Nat->Prop}(h:qjf w dp dc n th s0 s1 s2 s3 s5 s6 s7 s8)(ho:Only F w w')(hF:∀j,s0<=j->j≠s3->j<w.heap.size->¬F j):qjf w' dp dc n th s0 s1 s2 s3 s5 s6 s7 s8:=by
 obtain⟨l1,l2,l3,l4,l5,l6,l7,l8⟩:=h.le;refine⟨⟨l1,l2,l3,l4,l5,l6,l7,Nat.lt_of_lt_of_le l8 ho.size⟩,h.rd.only ho (hF _ (by omega) (by omega) (by omega)) (hF _ (by omega) (by omega) (by omega)),h.clk.only ho (hF _ (by omega) (by omega) (by omega)) (hF _ (by omega) (by omega) (by omega)),h.pool.only ho (hF _ (by omega) (by omega) (by omega)) (hF _ (by omega) (by omega) (by omega)),h.bag.only ho (hF _ (by omega) (by omega) (by omega)) (λb hb=>by simp[qa8]at hb),
  h.tab.only ho (λj hj=>hF j (by omega) (by omega) (by omega)),h.ord.only ho (λj hj=>hF j (by omega) (by omega) (by omega)),h.line.only ho (hF _ (by omega) (by omega) (by omega)) (λb hb=>by simp[qa8]at hb),(ho.block _ l8 (hF _ (by omega) (by omega) (by omega))).trans h.box⟩
def newG(dp dc s0 s1 s2 s3 s5 s6 s7 s8:Nat):Own8:=λb=>if b=dp\/b=dc then 2 else if b<s0 then 0 else if b<s1 then 4 else if b<s2 then 5 else if b<s3 then 3 else if b=s3 then 11 else if b<s5 then 6 else if b<s6 then 7 else if b<s7 then 8 else if b<s8 then 9 else if b=s8 then 1 else 0
noncomputable def newM(n th:Nat):qa4:={D:=formed n,S:=List.replicate ((n-2)/8) (qd3 (-1)),rnow:=1,H:=List.replicate th 0,now:=1,dur:=0,clo:=0,owed:=List.replicate th 0,noted:=List.replicate 258 false,left:=List.replicate 258 false,step:=qhj,bag:=[],T:=λ_=>[],O:=[],Q:=[],qn:=0,id:=0,ver:=0,E:=[],eA:=none,ec:=0}
theorem qjf.arena{w:World}{dp dc n th s0 s1 s2 s3 s5 s6 s7 s8:Nat}(h:qjf w dp dc n th s0 s1 s2 s3 s5 s6 s7 s8)(hv:w.cell? ⟨s3,0,none⟩=some (.pointer (some ⟨dp,0,none⟩)))(hd:qbb w 0 dp dc (formed n))(h1:dp<s0)(h2:dc<s0):qa6 (newG dp dc s0 s1 s2 s3 s5 s6 s7 s8) w s8 (newP dp dc s0 s1 s2 s3 s5 s6 s7) (newM n th):=by
 obtain⟨l1,l2,l3,l4,l5,l6,l7,l8⟩:=h.le;have G:∀b,newG dp dc s0 s1 s2 s3 s5 s6 s7 s8 b=if b=dp\/b=dc then 2 else if b<s0 then 0 else if b<s1 then 4 else if b<s2 then 5 else if b<s3 then 3 else if b=s3 then 11 else if b<s5 then 6 else if b<s6 then 7 else if b<s7 then 8 else if b<s8 then 9 else if b=s8 then 1 else 0:=λ_=>rfl
 have g2:∀b,b=dp\/b=dc->newG dp dc s0 s1 s2 s3 s5 s6 s7 s8 b=2:=λb hb=>by rw[G,if_pos hb]
 have g4:∀b,s0<=b->b<s1->newG dp dc s0 s1 s2 s3 s5 s6 s7 s8 b=4:=λb x y=>by rw[G,if_neg (by omega),if_neg (by omega),if_pos y]
 have g5:∀b,s1<=b->b<s2->newG dp dc s0 s1 s2 s3 s5 s6 s7 s8 b=5:=λb x y=>by rw[G,if_neg (by omega),if_neg (by omega),if_neg (by omega),if_pos y]
 have g3:∀b,s2<=b->b<s3->newG dp dc s0 s1 s2 s3 s5 s6 s7 s8 b=3:=λb x y=>by rw[G,if_neg (by omega),if_neg (by omega),if_neg (by omega),if_neg (by omega),if_pos y]
 have g11:newG dp dc s0 s1 s2 s3 s5 s6 s7 s8 s3=11:=by rw[G,if_neg (by omega),if_neg (by omega),if_neg (by omega),if_neg (by omega),if_neg (by omega),if_pos rfl]
 have g6:∀b,s3<b->b<s5->newG dp dc s0 s1 s2 s3 s5 s6 s7 s8 b=6:=λb x y=>by rw[G,if_neg (by omega),if_neg (by omega),if_neg (by omega),if_neg (by omega),if_neg (by omega),if_neg (by omega),if_pos y]
 have g7:∀b,s5<=b->b<s6->newG dp dc s0 s1 s2 s3 s5 s6 s7 s8 b=7:=λb x y=>by rw[G,if_neg (by omega),if_neg (by omega),if_neg (by omega),if_neg (by omega),if_neg (by omega),if_neg (by omega),if_neg (by omega),if_pos y]
 have g8:∀b,s6<=b->b<s7->newG dp dc s0 s1 s2 s3 s5 s6 s7 s8 b=8:=λb x y=>by rw[G,if_neg (by omega),if_neg (by omega),if_neg (by omega),if_neg (by omega),if_neg (by omega),if_neg (by omega),if_neg (by omega),if_neg (by omega),if_pos y]
 have g9:∀b,s7<=b->b<s8->newG dp dc s0 s1 s2 s3 s5 s6 s7 s8 b=9:=λb x y=>by rw[G,if_neg (by omega),if_neg (by omega),if_neg (by omega),if_neg (by omega),if_neg (by omega),if_neg (by omega),if_neg (by omega),if_neg (by omega),if_neg (by omega),if_pos y]
 have g1:newG dp dc s0 s1 s2 s3 s5 s6 s7 s8 s8=1:=by rw[G,if_neg (by omega),if_neg (by omega),if_neg (by omega),if_neg (by omega),if_neg (by omega),if_neg (by omega),if_neg (by omega),if_neg (by omega),if_neg (by omega),if_neg (by omega),if_pos rfl]
 have g0:∀b,s8<b->newG dp dc s0 s1 s2 s3 s5 s6 s7 s8 b=0:=λb x=>by rw[G,if_neg (by omega),if_neg (by omega),if_neg (by omega),if_neg (by omega),if_neg (by omega),if_neg (by omega),if_neg (by omega),if_neg (by omega),if_neg (by omega),if_neg (by omega),if_neg (by omega)]
 exact⟨λb hb=>g0 b (by omega),⟨h.box,g1⟩,⟨Own.none_,λb hb=>by have hb':qa8 none 0=some b:=hb;simp[qa8]at hb'⟩,⟨hv,hd,g11,g2 _ (.inl rfl),g2 _ (.inr rfl)⟩,⟨h.pool,g3 (s2+1) (by omega) (by omega),g3 s2 (by omega) (by omega)⟩,⟨h.rd,g4 (s0+1) (by omega) (by omega),g4 s0 (by omega) (by omega)⟩,⟨h.clk,g5 (s1+1) (by omega) (by omega),g5 s1 (by omega) (by omega)⟩,
  ⟨none,0,h.bag,g6 (s3+1) (by omega) (by omega),λb hb=>by simp[qa8]at hb⟩,h.tab.mono (λj hj=>g7 j hj.1 hj.2),h.ord.mono (λj hj=>g8 j (by omega) (by omega)),⟨none,0,⟨[],0,0,h.line,rfl⟩,g9 s7 (by omega) (by omega),λb hb=>by simp[qa8]at hb,Ring.of_box h.line.box (Nat.le_refl _)⟩⟩
def quj(dp dc n th:Nat)(w:World)(e:Ending)(w':World):Prop:=∃s1 s2 s3 s5 s6 s7 s8,e=.returned (.tuple #[.pointer (some ⟨s8,0,none⟩),.int .i64 0])/\qjf w' dp dc n th w.heap.size s1 s2 s3 s5 s6 s7 s8/\w'.heap[s3]? =some (.cells (qj8 dp).toArray 139 (0,0))/\Below w.heap.size w w'
theorem qw2(n th lo dp dc:Nat)(w:World)(hd:qbb w lo dp dc (List.replicate n qbc))(h1:18<=n)(h2:n<=250)(t1:1<=th)(t2:th<=4):Calls prog 49 #[.pointer (some ⟨dp,0,none⟩),.int .i64 (th:Int),.int .u64 0] w (quj dp dc n th w):=by
 have HD:=hid hd;have hlt:decide (((List.replicate n qbc).length:Int)<10)=false:=decide_eq_false (by rw[List.length_replicate];omega);clear hd;go_enter func49,ntmps49;go_wp2_with fail;refine(qs2 th w t1 t2).mono ?_;rintro e w1⟨rfl,hrd,hb1⟩;have HRD:=hid hrd;have HB1:=hid hb1;have TL:=hid (qhn w1 lo dp dc _ (HD.out.of_old hb1));clear hrd hb1;go_wp2_with fail;refine TL.out.mono ?_;rintro e w1'⟨rfl,he⟩;rw[he];clear he TL;go_wp2_with fail;refine(qqv th w1 t1 t2).mono ?_;rintro e w2⟨rfl,hck,hb2⟩;have HCK:=hid hck;have HB2:=hid hb2;have TL:=hid (qhn w2 lo dp dc _ ((HD.out.of_old HB1.out).of_old hb2));clear hck hb2;go_wp2_with fail;refine TL.out.mono ?_;rintro e w2'⟨rfl,he⟩;rw[he];clear he TL hlt;rw[show((List.replicate n qbc).length:Int)=(n:Int)by rw[List.length_replicate]];go_wp2_with fail;refine(ql1 n w2 (by omega) (by omega)).mono ?_;rintro e w2'⟨rfl,he⟩;rw[he];clear he;go_wp2_with fail;refine(qna ((n-2)/8) w2 (by omega) (by omega)).mono ?_;rintro e w3⟨rfl,hpl,hb3⟩;have HPL:=hid hpl;have HB3:=hid hb3;clear hpl hb3;go_wp2_with fail;generalize hw4:World.alloc _ _=w4;have RV:w4.heap[w3.heap.size]? =some (.cells (qj8 dp).toArray 139 (0,0)):=by rw[<-hw4];exact qaq _ _
 have b4:Below w3.heap.size w3 w4:=by rw[<-hw4];exact(Below.refl _ _).alloc (Nat.le_refl _) _
 have s4:w4.heap.size=w3.heap.size+1:=by rw[<-hw4];simp
 have HRV:=hid RV;have HB4:=hid b4;have HS4:=hid s4;clear hw4 RV b4 s4;refine(qr4 w4).mono ?_;rintro e w5⟨rfl,hbg,hb5⟩;have HBG:=hid hbg;have HB5:=hid hb5;clear hbg hb5;go_wp2_with fail;refine(qps w5).mono ?_;rintro e w6⟨rfl,htb,hb6⟩;have HTB:=hid htb;have HB6:=hid hb6;clear htb hb6;go_wp2_with fail;refine(qq4 w6).mono ?_;rintro e w7⟨rfl,hod,hb7,hs7⟩;have HOD:=hid hod;have HB7:=hid hb7;clear hod hb7 hs7;go_wp2_with fail;refine(qnq w7).mono ?_;rintro e w8⟨rfl,hff,hb8⟩;have HFF:=hid hff;have HB8:=hid hb8;clear hff hb8;go_wp2_with fail;go_ret2;generalize hw9:World.alloc _ _=w9;have s4:=HS4.out;have R9:w9.heap[w8.heap.size]? =some (.cells (qje (newP dp dc w.heap.size w1.heap.size w2.heap.size w3.heap.size w5.heap.size w6.heap.size w7.heap.size) 0 0 none 0 0).toArray 127 (0,0)):=by
  have e:qje (newP dp dc w.heap.size w1.heap.size w2.heap.size w3.heap.size w5.heap.size w6.heap.size w7.heap.size) 0 0 none 0 0=[.pointer (some ⟨w3.heap.size,0,none⟩),.pointer (some ⟨w2.heap.size+1,0,none⟩),.pointer (some ⟨w.heap.size+1,0,none⟩),.pointer (some ⟨w1.heap.size+1,0,none⟩),.pointer (some ⟨w4.heap.size,0,none⟩),.pointer (some ⟨w5.heap.size,0,none⟩),.pointer (some ⟨w6.heap.size,0,none⟩),.pointer (some ⟨w7.heap.size,0,none⟩),.int .u64 0,.int .u64 0,.slice none 0 0]:=by rw[s4];rfl
  rw[e,<-hw9];exact qaq _ _
 have b8:Below w8.heap.size w8 w9:=by rw[<-hw9];exact(Below.refl _ _).alloc (Nat.le_refl _) _
 have b7:=HB8.out.trans (b8.mono HB8.out.size);have b6:=HB7.out.trans (b7.mono HB7.out.size);have b5:=HB6.out.trans (b6.mono HB6.out.size);have b4:=HB5.out.trans (b5.mono HB5.out.size);have b3:=HB4.out.trans (b4.mono HB4.out.size);have b2:=HB3.out.trans (b3.mono HB3.out.size);have b1:=HB2.out.trans (b2.mono HB2.out.size);have b0:=HB1.out.trans (b1.mono HB1.out.size);have l1:=qa0 HRD.out.box;have l2:=qa0 HCK.out.box;have l3:=qa0 HPL.out.box;have l4:=qa0 HBG.out.box;have l5:=HTB.out.lt;have l6:=HOD.out.lt;have l7:=qa0 HFF.out.box;have l8:=qa0 R9;have HT:qbk (λj=>w5.heap.size<=j/\j<w6.heap.size) w6 w5.heap.size (λi=>w5.heap.size+1+i) (λ_=>[]):=⟨HTB.out.box,HTB.out.map,HTB.out.inj,HTB.out.bkt,⟨Nat.le_refl _,l5⟩,λi hi=>⟨by omega,(HTB.out.map i hi).lt⟩⟩;have HBG1:=HBG.out;have hbp:w4.heap.size=w3.heap.size+1:=s4;refine⟨w1.heap.size,w2.heap.size,w3.heap.size,w5.heap.size,w6.heap.size,w7.heap.size,w8.heap.size,rfl,⟨⟨l1,l2,l3,by omega,l5,l6,l7,l8⟩,(HRD.out.zero).only (Only.of_below (F:=λ_=>False) b1) (λh=>h) (λh=>h),(HCK.out.zero).only (Only.of_below (F:=λ_=>False) b2) (λh=>h) (λh=>h),(HPL.out.zero).only (Only.of_below (F:=λ_=>False) b3) (λh=>h) (λh=>h),?_,HT.below b6,HOD.out.below b7,(HFF.out.zero).only (Only.of_below (F:=λ_=>False) b8) (λh=>h) (λ_ _ h=>h),R9⟩,qac b4 (by omega) HRV.out,b0⟩;rw[<-hbp];exact(HBG1.zero).only (Only.of_below (F:=λ_=>False) b5) (λh=>h) (λ_ _ h=>h)
def qxr(n th:Nat)(w:World)(e:Ending)(w':World):Prop:=∃a P g,e=.returned (.tuple #[.pointer (some ⟨a,0,none⟩),.int .i64 0])/\qa6 g w' a P (newM n th)/\Below w.heap.size w w'/\w.heap.size<=a/\∀b,b<w.heap.size->g b=0
theorem qtz(n th:Nat)(w:World)(h1:18<=n)(h2:n<=250)(t1:1<=th)(t2:th<=4):Calls prog 31 #[.int .i64 (n:Int),.int .i64 (th:Int)] w (qxr n th w):=by
 go_enter func31,ntmps31;go_wp2_with fail;refine(qqp n w (by omega) (by omega)).mono ?_;rintro e w1⟨rfl,hd,hb1⟩;have HD:=hid hd;have HB1:=hid hb1;clear hd hb1;go_wp2_with fail;refine(qw2 n th _ _ _ w1 HD.out h1 h2 t1 t2).mono ?_;rintro e w2⟨s1,s2,s3,s5,s6,s7,s8,rfl,hm,hv,hb2⟩;have HM:=hid hm;have HB2:=hid hb2;have hd2:=HD.out.of_old hb2;have l1:=HD.out.lt;obtain⟨q1,q2,q3,q4,q5,q6,q7,q8⟩:=hm.le;have TF:=hid (qkd n w2 0 s3 (w.heap.size+1) w.heap.size hv (Nat.zero_le _) (Nat.zero_le _) (by omega) (by omega) hd2.zero (by omega) (by omega));have k0:w2.cell? ⟨s8,0,none⟩=some (.pointer (some ⟨s3,0,none⟩)):=cell_of_row w2 s8 0 _ _ _ hm.box;have HL:=hid (show s3<s8/\s8<w2.heap.size/\w1.heap.size<=s3 by omega);have HL1:=hid l1;clear hm hv hb2 hd2 l1 q1 q2 q3 q4 q5 q6 q7;go_wp2_with fail;refine TF.out.mono ?_;rintro e w3⟨rfl,hk,hdv,hb3,ho⟩;have HK:=hid hk;have HDV:=hid hdv;have HB3:=hid hb3;have HO:=hid ho;clear hk hdv hb3 ho TF;go_wp2_with fail;go_ret2;have ho3:Only (λj=>j=s3\/j=w.heap.size+1\/j=w.heap.size) w2 w3:=⟨HB3.out.os,HB3.out.tape,HB3.out.output,HB3.out.size,λj hj hn=>HO.out j hj (λe=>hn (.inl e)) (λe=>hn (.inr (.inl e))) (λe=>hn (.inr (.inr e)))⟩;have hl:=HL.out;have hl1:=HL1.out;have hm3:=HM.out.only ho3 (λj hj hne _ hF=>by omega);refine⟨s8,_,_,rfl,hm3.arena HK.out HDV.out hl1.1 hl1.2,?_,by have:=HB1.out.size;omega,λb hb=>?_⟩
 · have hb12:=HB1.out.trans (HB2.out.mono HB1.out.size)
   exact⟨HB3.out.os.trans hb12.os,HB3.out.tape.trans hb12.tape,HB3.out.output.trans hb12.output,Nat.le_trans hb12.size HB3.out.size,λj hj=>(HO.out j (Nat.lt_of_lt_of_le hj hb12.size) (by omega) (by omega) (by omega)).trans (hb12.block j hj)⟩
 · show newG _ _ _ _ _ _ _ _ _ _ b=0
   unfold newG;rw[if_neg (by omega),if_pos (by have:=HB1.out.size;omega)]
end
end Go.Proofs.YtecikkjbnkhhkaaGreat
