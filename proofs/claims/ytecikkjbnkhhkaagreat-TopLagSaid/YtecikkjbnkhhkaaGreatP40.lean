/- A part of the walk. -/
import Derived.Test.YtecikkjbnkhhkaaGreatP36
import Derived.Test.YtecikkjbnkhhkaaGreatP37
import Derived.Test.YtecikkjbnkhhkaaGreatP35
import Derived.Test.YtecikkjbnkhhkaaGreatP39
namespace Go.Proofs.YtecikkjbnkhhkaaGreat
open _root_.Go.Proofs.Tryz
set_option maxRecDepth 100000
section
open Go.RowKit
def qi7(c:qa7):Prop:=c.key.size<=1000/\c.val.size<=1000
def qdc(L:Nat)(line:Int)(cls piece:Int):Prop:=∃n p:Nat,line=(n:Int)/\piece=(p:Int)/\¬qa9 cls=0/\p<qa9 cls/\n+qa9 cls<=L
structure FrOK(L:Nat)(f:qa5)(d:FrD):Prop where
 ph:0<=f.phase/\f.phase<7
 kind:f.call.kind=1\/f.call.kind=2\/f.call.kind=3\/f.call.kind=4\/f.call.kind=5\/f.call.kind=7
 call:qi7 f.call
 gr:d.gr.length<=3/\(∀x∈d.gr,qi7 x)/\Flat d.gr
 g1:f.call.kind=7->1<=d.gr.length
 enq:f.call.kind=4->¬f.phase=1/\¬f.phase=2
 grp:f.call.kind=7->¬f.phase=2/\(f.phase=1\/f.phase=3\/f.phase=4->(∃i:Nat,f.at'=(i:Int)/\i<d.gr.length)/\d.ps.length=d.gr.length)/\(f.phase=5->d.ps.length=d.gr.length)
 wr:f.phase=4->¬f.call.kind=7->qdc L f.line f.cls f.piece
 wrg:f.phase=4->f.call.kind=7->∀i:Nat,f.at'=(i:Int)->∀h:i<d.ps.length,qdc L d.ps[i].line d.ps[i].cls f.piece
 rd:f.phase=2->qdc L f.old.line f.old.cls f.piece/\(d.bs.length:Int)=64*f.piece
 bs:d.bs.length<=512
 ps:d.ps.length<=1000
 hs:d.hs.length<=1000
theorem qyn(c:Int):qa9 c<=8:=by unfold qa9;repeat(first|split|omega)
theorem FrOK.fit{L:Nat}{f:qa5}{d:FrD}(h:FrOK L f d):quy d:=⟨⟨by have:=h.gr.1;omega,h.gr.2.2⟩,by have:=h.bs;omega,by have:=h.ps;omega,by have:=h.hs;omega⟩
theorem FrOK.same{L:Nat}{f f1:qa5}{d d1:FrD}(h:FrOK L f d)(hs:qdm f d f1 d1):FrOK L f1 d1:=by
 obtain⟨y,bA,bc,pA,pc,hA,hc,he,hy⟩:=hs.eq;have hgl:=hs.gr.1;have e0:f1.call=y:=by rw[he];rfl
 have e1:f1.phase=f.phase:=by rw[he];rfl
 have e2:f1.at'=f.at':=by rw[he];rfl
 have e3:f1.line=f.line:=by rw[he];rfl
 have e4:f1.cls=f.cls:=by rw[he];rfl
 have e5:f1.piece=f.piece:=by rw[he];rfl
 have e6:f1.old=f.old:=by rw[he];rfl
 have ek:f1.call.kind=f.call.kind:=by rw[e0];exact hy.kind
 refine⟨by rw[e1];exact h.ph,by rw[ek];exact h.kind,?_,⟨by rw[hgl];exact h.gr.1,?_,h.gr.2.2.sims hs.gr⟩,?_,?_,?_,?_,?_,?_,by rw[hs.bs];exact h.bs,by rw[hs.ps];exact h.ps,by rw[hs.hs];exact h.hs⟩
 · rw[e0];exact⟨by rw[hy.key];exact h.call.1,by rw[hy.val];exact h.call.2⟩
 · intro x hx
   obtain⟨i,hi,rfl⟩:=List.getElem_of_mem hx;have hi':i<d.gr.length:=by omega
   have hc:=(hs.gr.2 i hi hi').1;have h0:=h.gr.2.1 d.gr[i] (List.getElem_mem hi');exact⟨by rw[hc.key];exact h0.1,by rw[hc.val];exact h0.2⟩
 · rw[ek,hgl];exact h.g1
 · rw[ek,e1];exact h.enq
 · rw[ek,e1,e2,hs.ps,hgl];exact h.grp
 · rw[ek,e1,e3,e4,e5];exact h.wr
 · rw[ek,e1,e2,e5]
   intro a b i hi hp;have hp':i<d.ps.length:=by rw[<-hs.ps];exact hp
   have:=h.wrg a b i hi hp';simpa only[hs.ps]using this
 · rw[e1,e6,e5,hs.bs];exact h.rd
structure OkR(M:qa4)(n th:Nat)(f1:qa5)(d1:FrD)(M':qa4)(f':qa5)(d':FrD):Prop where
 ok:OkA M' (n+3) th
 len:M'.D.length=M.D.length
 now:M'.now=M.now/\M'.dur=M.dur
 call:f'.call=f1.call/\d'.gr=d1.gr
 hs:d'.hs.length<=1000
 fr:f'.phase=7\/FrOK M.D.length f' d'
theorem OkA.upd{M:qa4}{n th:Nat}(h:OkA M n th){D':List qab}{S':List qan}{H':List Nat}(hD:D'.length=M.D.length)(hS:S'.length=M.S.length)(hH:H'.length=M.H.length):OkA {M with D:=D',S:=S',H:=H'} n th:=
 ⟨⟨h.few.t,h.few.q,h.few.qn,h.few.o,h.few.e,h.few.b⟩,h.rise,h.id,h.ver,by show 2+8*S'.length<=D'.length;rw[hD,hS];exact h.slabs,by show ∀i,i<8->∀x∈M.T i,OkL D'.length x;rw[hD];exact h.lt,by show ∀x∈M.Q,OkL D'.length x;rw[hD];exact h.lq,⟨by show H'.length=th;rw[hH];exact h.th.1,h.th.2⟩⟩
section
variable {M M':qa4}{n th t:Nat}{f f':qa5}{d d':FrD}
theorem OkA.setH(h:OkA M n th){H':List Nat}(hH:H'.length=M.H.length):OkA {M with H:=H'} n th:=h.upd (D':=M.D) (S':=M.S) rfl rfl hH
theorem OkA.setS(h:OkA M n th){S':List qan}(hS:S'.length=M.S.length):OkA {M with S:=S'} n th:=h.upd (D':=M.D) (H':=M.H) rfl hS rfl
theorem OkA.setD(h:OkA M n th){D':List qab}(hD:D'.length=M.D.length):OkA {M with D:=D'} n th:=h.upd (S':=M.S) (H':=M.H) hD rfl rfl
theorem qh0(M:qa4)(c:qa7)(k:Int)(n p:Nat):(wrD M c k n p).length=M.D.length:=by
 unfold wrD;split
 · rw[List.length_set]
 · rfl
theorem FrOK.six(h:FrOK M.D.length f d)(hc:f'.call=f.call)(hg:d'.gr=d.gr)(hp:f'.phase=6)(hb:d'.bs.length<=512)(hps:d'.ps.length<=1000)(hhs:d'.hs.length<=1000):FrOK M.D.length f' d':=by
 refine⟨by rw[hp];decide,by rw[hc];exact h.kind,by rw[hc];exact h.call,by rw[hg];exact h.gr,by rw[hc,hg];exact h.g1,λ_=>by rw[hp];decide,λ_=>⟨by rw[hp];decide,λe=>?_,λe=>?_⟩,λe=>?_,λe=>?_,λe=>?_,hb,hps,hhs⟩
 · rw[hp]at e;exact absurd e (by decide)
 · rw[hp]at e;exact absurd e (by decide)
 · rw[hp]at e;exact absurd e (by decide)
 · rw[hp]at e;exact absurd e (by decide)
 · rw[hp]at e;exact absurd e (by decide)
theorem FrOK.one(h:FrOK M.D.length f d)(hc:f'.call=f.call)(hg:d'.gr=d.gr)(hp:f'.phase=1)(hk:¬f.call.kind=4)(hG:f.call.kind=7->(∃i:Nat,f'.at'=(i:Int)/\i<d.gr.length)/\d'.ps.length=d.gr.length)(hb:d'.bs.length<=512)(hps:d'.ps.length<=1000)(hhs:d'.hs.length<=1000):FrOK M.D.length f' d':=by
 refine⟨by rw[hp];decide,by rw[hc];exact h.kind,by rw[hc];exact h.call,by rw[hg];exact h.gr,by rw[hc,hg];exact h.g1,λe=>absurd (hc ▸ e) hk,λe=>⟨by rw[hp];decide,λ_=>?_,λe=>?_⟩,λe=>?_,λe=>?_,λe=>?_,hb,hps,hhs⟩
 · rw[hg];exact hG (hc ▸ e)
 · rw[hp]at e;exact absurd e (by decide)
 · rw[hp]at e;exact absurd e (by decide)
 · rw[hp]at e;exact absurd e (by decide)
 · rw[hp]at e;exact absurd e (by decide)
theorem FrOK.three(h:FrOK M.D.length f d)(hc:f'.call=f.call)(hg:d'.gr=d.gr)(hp:f'.phase=3)(hG:f.call.kind=7->(∃i:Nat,f'.at'=(i:Int)/\i<d.gr.length)/\d'.ps.length=d.gr.length)(hb:d'.bs.length<=512)(hps:d'.ps.length<=1000)(hhs:d'.hs.length<=1000):FrOK M.D.length f' d':=by
 refine⟨by rw[hp];decide,by rw[hc];exact h.kind,by rw[hc];exact h.call,by rw[hg];exact h.gr,by rw[hc,hg];exact h.g1,λ_=>by rw[hp];decide,λe=>⟨by rw[hp];decide,λ_=>?_,λe=>?_⟩,λe=>?_,λe=>?_,λe=>?_,hb,hps,hhs⟩
 · rw[hg];exact hG (hc ▸ e)
 · rw[hp]at e;exact absurd e (by decide)
 · rw[hp]at e;exact absurd e (by decide)
 · rw[hp]at e;exact absurd e (by decide)
 · rw[hp]at e;exact absurd e (by decide)
theorem FrOK.five(h:FrOK M.D.length f d)(hc:f'.call=f.call)(hg:d'.gr=d.gr)(hp:f'.phase=5)(hG:f.call.kind=7->d'.ps.length=d.gr.length)(hb:d'.bs.length<=512)(hps:d'.ps.length<=1000)(hhs:d'.hs.length<=1000):FrOK M.D.length f' d':=by
 refine⟨by rw[hp];decide,by rw[hc];exact h.kind,by rw[hc];exact h.call,by rw[hg];exact h.gr,by rw[hc,hg];exact h.g1,λ_=>by rw[hp];decide,λe=>⟨by rw[hp];decide,λe=>?_,λ_=>?_⟩,λe=>?_,λe=>?_,λe=>?_,hb,hps,hhs⟩
 · rw[hp]at e;exact absurd e (by decide)
 · rw[hg];exact hG (hc ▸ e)
 · rw[hp]at e;exact absurd e (by decide)
 · rw[hp]at e;exact absurd e (by decide)
 · rw[hp]at e;exact absurd e (by decide)
theorem FrOK.two(h:FrOK M.D.length f d)(hc:f'.call=f.call)(hg:d'.gr=d.gr)(hp:f'.phase=2)(hk:¬f.call.kind=4)(hk7:¬f.call.kind=7)(hr:qdc M.D.length f'.old.line f'.old.cls f'.piece/\(d'.bs.length:Int)=64*f'.piece)(hb:d'.bs.length<=512)(hps:d'.ps.length<=1000)(hhs:d'.hs.length<=1000):FrOK M.D.length f' d':=by
 refine⟨by rw[hp];decide,by rw[hc];exact h.kind,by rw[hc];exact h.call,by rw[hg];exact h.gr,by rw[hc,hg];exact h.g1,λe=>absurd (hc ▸ e) hk,λe=>absurd (hc ▸ e) hk7,λe=>?_,λe=>?_,λ_=>hr,hb,hps,hhs⟩
 · rw[hp]at e;exact absurd e (by decide)
 · rw[hp]at e;exact absurd e (by decide)
theorem FrOK.four(h:FrOK M.D.length f d)(hc:f'.call=f.call)(hg:d'.gr=d.gr)(hp:f'.phase=4)(hw:¬f.call.kind=7->qdc M.D.length f'.line f'.cls f'.piece)(hG:f.call.kind=7->(∃i:Nat,f'.at'=(i:Int)/\i<d.gr.length)/\d'.ps.length=d.gr.length)(hwg:f.call.kind=7->∀i:Nat,f'.at'=(i:Int)->∀h:i<d'.ps.length,qdc M.D.length d'.ps[i].line d'.ps[i].cls f'.piece)(hb:d'.bs.length<=512)(hps:d'.ps.length<=1000)(hhs:d'.hs.length<=1000):FrOK M.D.length f' d':=by
 refine⟨by rw[hp];decide,by rw[hc];exact h.kind,by rw[hc];exact h.call,by rw[hg];exact h.gr,by rw[hc,hg];exact h.g1,λ_=>by rw[hp];decide,λe=>⟨by rw[hp];decide,λ_=>?_,λe=>?_⟩,λ_ e=>hw (hc ▸ e),λ_ e=>hwg (hc ▸ e),λe=>?_,hb,hps,hhs⟩
 · rw[hg];exact hG (hc ▸ e)
 · rw[hp]at e;exact absurd e (by decide)
 · rw[hp]at e;exact absurd e (by decide)
theorem OkR.sameM(hok:OkA M n th)(hc:f'.call=f.call/\d'.gr=d.gr)(hh:d'.hs.length<=1000)(hf:f'.phase=7\/FrOK M.D.length f' d'):OkR M n th f d M f' d':=⟨hok.mono (by omega),rfl,⟨rfl,rfl⟩,hc,hh,hf⟩
theorem OkR.setH(hok:OkA M n th){H':List Nat}(hH:H'.length=M.H.length)(hc:f'.call=f.call/\d'.gr=d.gr)(hh:d'.hs.length<=1000)(hf:f'.phase=7\/FrOK M.D.length f' d'):OkR M n th f d {M with H:=H'} f' d':=⟨(hok.setH hH).mono (by omega),rfl,⟨rfl,rfl⟩,hc,hh,hf⟩
theorem OkR.setS(hok:OkA M n th){S':List qan}(hS:S'.length=M.S.length)(hc:f'.call=f.call/\d'.gr=d.gr)(hh:d'.hs.length<=1000)(hf:f'.phase=7\/FrOK M.D.length f' d'):OkR M n th f d {M with S:=S'} f' d':=⟨(hok.setS hS).mono (by omega),rfl,⟨rfl,rfl⟩,hc,hh,hf⟩
theorem OkR.setD(hok:OkA M n th){D':List qab}(hD:D'.length=M.D.length)(hc:f'.call=f.call/\d'.gr=d.gr)(hh:d'.hs.length<=1000)(hf:f'.phase=7\/FrOK M.D.length f' d'):OkR M n th f d {M with D:=D'} f' d':=⟨(hok.setD hD).mono (by omega),hD,⟨rfl,rfl⟩,hc,hh,hf⟩
def qua(M:qa4)(t:Nat)(f:qa5)(d:FrD)(M':qa4)(f':qa5)(d':FrD):Prop:=M'= {M with H:=M.H.set t 0}/\f'= {f with phase:=7}/\d'=d
theorem qgs(hok:OkA M n th)(h:FrOK M.D.length f d)(hr:qua M t f d M' f' d'):OkR M n th f d M' f' d':=by
 obtain⟨rfl,rfl,rfl⟩:=hr;exact .setH hok (by rw[List.length_set]) ⟨rfl,rfl⟩ h.hs (.inl rfl)
theorem qiv{h0:Nat}(hok:OkA M n th)(h:FrOK M.D.length f d)(hk:¬f.call.kind=4/\¬f.call.kind=7)(hr:qmk M t f d h0 (λf=> {f with phase:=1}) M' f' d'):OkR M n th f d M' f' d':=by
 obtain⟨rfl,(⟨_,rfl,rfl⟩|⟨_,_,rfl,rfl⟩|⟨_,_,rfl,rfl⟩)⟩:=hr
 · exact .sameM hok ⟨rfl,rfl⟩ h.hs (.inl rfl)
 · exact .sameM hok ⟨rfl,rfl⟩ h.hs (.inl rfl)
 · exact .setH hok (by rw[List.length_set]) ⟨rfl,rfl⟩ h.hs (.inr (h.one rfl rfl rfl hk.1 (λe=>absurd e hk.2) h.bs h.ps h.hs))
theorem qpq{h0:Nat}(hok:OkA M n th)(h:FrOK M.D.length f d)(hk:f.call.kind=4\/f.call.kind=5)(hr:qmk M t f d h0 (λf=> {f with phase:=if f.call.kind=5 then 1 else 3}) M' f' d'):OkR M n th f d M' f' d':=by
 have hk7:¬f.call.kind=7:=by omega
 obtain⟨rfl,(⟨_,rfl,rfl⟩|⟨_,_,rfl,rfl⟩|⟨_,_,rfl,rfl⟩)⟩:=hr
 · exact .sameM hok ⟨rfl,rfl⟩ h.hs (.inl rfl)
 · exact .sameM hok ⟨rfl,rfl⟩ h.hs (.inl rfl)
 · refine .setH hok (by rw[List.length_set]) ⟨rfl,rfl⟩ h.hs (.inr ?_)
   by_cases h5:f.call.kind=5
   · exact h.one rfl rfl (if_pos h5) (by omega) (λe=>absurd e hk7) h.bs h.ps h.hs
   · exact h.three rfl rfl (if_neg h5) (λe=>absurd e hk7) h.bs h.ps h.hs
theorem qqg{h0:Nat}(hok:OkA M n th)(h:FrOK M.D.length f d)(hk:f.call.kind=7)(hr:qyh M t f d h0 M' f' d'):OkR M n th f d M' f' d':=by
 rcases hr with⟨rfl,_,rfl,rfl⟩|⟨rfl,_,_,rfl,rfl⟩|⟨rfl,_,_,rfl,A,c,rfl⟩
 · exact .sameM hok ⟨rfl,rfl⟩ h.hs (.inl rfl)
 · exact .sameM hok ⟨rfl,rfl⟩ h.hs (.inl rfl)
 · have hg:=h.gr.1
   have h1:=h.g1 hk;exact .setH hok (by rw[List.length_set]) ⟨rfl,rfl⟩ h.hs (.inr (h.one rfl rfl rfl (by omega) (λ_=>⟨⟨0,rfl,by omega⟩,by simp⟩) h.bs (by simp;omega) h.hs))
theorem qlg{L:Nat}{y:qa3}(h:OkL L y):qdc L y.line y.cls 0:=by
 obtain⟨_,_,h0,⟨ln,h1,h2⟩,_⟩:=h;exact⟨ln,0,h1,rfl,h0,by omega,h2⟩
theorem qlz{f1:qa5}(hok:OkA M n th)(h:FrOK M.D.length f d)(hk:f.call.kind=1\/f.call.kind=2\/f.call.kind=3)(hc:f1.call=f.call)(hold:f1.had=true->OkL M.D.length f1.old)(hr:qv0 M f1 d M' f' d'):OkR M n th f d M' f' d':=by
 have hk7:¬f.call.kind=7:=by omega
 have hk4:¬f.call.kind=4:=by omega
 rcases hr with⟨_,hh,rfl,rfl,rfl⟩|⟨_,_,rfl,rfl,rfl⟩|⟨_,_,_,⟨S',hS,rfl⟩,rfl,rfl⟩|⟨_,_,_,rfl,rfl,rfl⟩|⟨_,_,_,rfl,rfl,rfl⟩|⟨_,_,_,rfl,rfl,rfl⟩
 · exact .sameM hok ⟨hc,rfl⟩ h.hs (.inr (h.two hc rfl rfl hk4 hk7 ⟨qlg (hold hh),rfl⟩ (Nat.zero_le _) h.ps h.hs))
 · exact .sameM hok ⟨hc,rfl⟩ h.hs (.inr (h.six hc rfl rfl h.bs h.ps h.hs))
 · exact .setS hok hS.len ⟨hc,rfl⟩ h.hs (.inr (h.six hc rfl rfl h.bs h.ps h.hs))
 · exact .sameM hok ⟨hc,rfl⟩ h.hs (.inr (h.six hc rfl rfl h.bs h.ps h.hs))
 · exact .sameM hok ⟨hc,rfl⟩ h.hs (.inr (h.three hc rfl rfl (λe=>absurd e hk7) h.bs h.ps h.hs))
 · exact .sameM hok ⟨hc,rfl⟩ h.hs (.inr (h.five hc rfl rfl (λe=>absurd e hk7) h.bs h.ps h.hs))
theorem qlb(hok:OkA M n th)(h:FrOK M.D.length f d)(hk:f.call.kind=1\/f.call.kind=2\/f.call.kind=3)(hr:FdR M f d M' f' d'):OkR M n th f d M' f' d':=by
 obtain⟨r,hn,(⟨y,rfl,_,rfl,rfl,rfl⟩|⟨_,hg⟩)⟩:=hr
 · refine .sameM hok ⟨rfl,rfl⟩ h.hs (.inr ⟨h.ph,h.kind,h.call,h.gr,h.g1,h.enq,h.grp,h.wr,h.wrg,h.rd,h.bs,h.ps,h.hs⟩)
 · cases hb:hitB f r with
   |false =>
    rw[qj3 hb]at hg;exact qlz (f1:={f with had:=false,old:=qak}) hok h hk rfl (λhh=>by cases hh) hg
   |true =>
    rw[qlp hb]at hg;cases r with
    |none=>cases hb
    |some y=>exact qlz (f1:={f with had:=true,old:=y}) hok h hk rfl (λ_=>hok.lt _ (qb6 f.call.key) y hn.1) hg
theorem qq7{S:List qan}{c:Int}{i k:Nat}(hi:i<S.length)(h0:¬qa9 c=0)(hf:quz S c i k true){L:Nat}(hL:2+8*S.length<=L):qdc L ((2+i*8+k*qa9 c:Nat):Int) c 0:=by
 obtain⟨_,hk,hcs⟩:=hf.1 rfl;refine⟨_,0,rfl,rfl,h0,by omega,?_⟩;have hk2:k<8/qa9 c:=by
  rcases hcs with⟨_,h,_⟩|⟨_,rfl,_⟩
  · exact h
  · have:=qyn c
    exact Nat.div_pos this (by omega)
 have h8:(k+1)*qa9 c<=8:=Nat.le_trans (Nat.mul_le_mul_right _ hk2) (Nat.div_mul_le_self 8 (qa9 c));rw[Nat.add_mul]at h8;omega
theorem qfm{c ln code:Int}{M1:qa4}(hok:OkA M n th)(hr:qi2 M c ln code M1):OkA M1 n th/\M1.D.length=M.D.length/\M1.now=M.now/\M1.dur=M.dur/\M1.S.length=M.S.length/\(code=0->qdc M.D.length ln c 0):=by
 rcases hr with⟨_,_,rfl,rfl⟩|⟨_,_,rfl,rfl,_⟩|⟨i,k,hi,h0,hf,rfl,rfl,rfl⟩
 · exact⟨hok,rfl,rfl,rfl,rfl,λe=>by cases e⟩
 · exact⟨hok,rfl,rfl,rfl,rfl,λe=>by cases e⟩
 · exact⟨hok.setS (by rw[List.length_set]),rfl,rfl,rfl,by rw[List.length_set],λ_=>qq7 hi h0 hf hok.slabs⟩
theorem OkR.of(hok:OkA M' n th)(hl:M'.D.length=M.D.length)(hn:M'.now=M.now/\M'.dur=M.dur)(hc:f'.call=f.call/\d'.gr=d.gr)(hh:d'.hs.length<=1000)(hf:f'.phase=7\/FrOK M.D.length f' d'):OkR M n th f d M' f' d':=⟨hok.mono (by omega),hl,hn,hc,hh,hf⟩
theorem ql6(hok:OkA M n th)(h:FrOK M.D.length f d)(hk7:¬f.call.kind=7)(hr:TkR M f d M' f' d'):OkR M n th f d M' f' d':=by
 obtain⟨rfl,ln,code,ht,(⟨_,rfl⟩|⟨h0,rfl⟩)⟩:=hr
 · obtain⟨q1,q2,q3,q4,q5,q6⟩:=qfm hok ht
   exact .of q1 q2 ⟨q3,q4⟩ ⟨rfl,rfl⟩ h.hs (.inr (h.six rfl rfl rfl h.bs h.ps h.hs))
 · obtain⟨q1,q2,q3,q4,q5,q6⟩:=qfm hok ht
   exact .of q1 q2 ⟨q3,q4⟩ ⟨rfl,rfl⟩ h.hs (.inr (h.four rfl rfl rfl (λ_=>q6 h0) (λe=>absurd e hk7) (λe=>absurd e hk7) h.bs h.ps h.hs))
theorem qri(hok:OkA M n th)(h:FrOK M.D.length f d)(hk7:¬f.call.kind=7)(hr:TkT M f d M' f' d'):OkR M n th f d M' f' d':=by
 obtain⟨rfl,ln,code,ht,(⟨_,rfl⟩|⟨h0,rfl⟩)⟩:=hr
 · obtain⟨q1,q2,q3,q4,q5,q6⟩:=qfm hok ht
   exact .of q1 q2 ⟨q3,q4⟩ ⟨rfl,rfl⟩ h.hs (.inr (h.six rfl rfl rfl h.bs h.ps h.hs))
 · obtain⟨q1,q2,q3,q4,q5,q6⟩:=qfm hok ht
   exact .of q1 q2 ⟨q3,q4⟩ ⟨rfl,rfl⟩ h.hs (.inr (h.four rfl rfl rfl (λ_=>q6 h0) (λe=>absurd e hk7) (λe=>absurd e hk7) h.bs h.ps h.hs))
theorem qyj{nn p:Nat}(hok:OkA M n th)(h:FrOK M.D.length f d)(hp4:f.phase=4)(hk7:¬f.call.kind=7)(hpc:f.piece=(p:Int))(hp:p<qa9 f.cls)(hr:WrR M f d nn p M' f' d'):OkR M n th f d M' f' d':=by
 obtain⟨rfl,rfl,(⟨_,rfl⟩|⟨hne,rfl⟩)⟩:=hr
 · exact .setD hok (qh0 _ _ _ _ _) ⟨rfl,rfl⟩ h.hs (.inr (h.five rfl rfl rfl (λe=>absurd e hk7) h.bs h.ps h.hs))
 · refine .setD hok (qh0 _ _ _ _ _) ⟨rfl,rfl⟩ h.hs (.inr (h.four rfl rfl hp4 (λ_=>?_) (λe=>absurd e hk7) (λe=>absurd e hk7) h.bs h.ps h.hs))
   obtain⟨a,b,e1,e2,e3,e4,e5⟩:=h.wr hp4 hk7;exact⟨a,p+1,e1,rfl,e3,by show p+1<qa9 f.cls;omega,e5⟩
theorem ql7{now:List UInt8}{pc:Nat}(hok:OkA M n th)(h:FrOK M.D.length f d)(hp2:f.phase=2)(hk4:¬f.call.kind=4)(hk7:¬f.call.kind=7)(hpc:f.piece=(pc:Int))(hnow:now.length=64)(hr:RdR M f d now pc M' f' d'):OkR M n th f d M' f' d':=by
 obtain⟨⟨a,b,e1,e2,e3,e4,e5⟩,hbs⟩:=h.rd hp2;have h8:=qyn f.old.cls;obtain⟨rfl,(⟨hne,A',c',rfl,rfl⟩|⟨_,rfl,(⟨_,rfl⟩|⟨_,rfl⟩)⟩)⟩:=hr
 · have hl:(d.bs++now).length=d.bs.length+64:=by rw[List.length_append,hnow]
   refine .sameM hok ⟨rfl,rfl⟩ h.hs (.inr (h.two rfl rfl hp2 hk4 hk7 ⟨⟨a,pc+1,e1,rfl,e3,?_,e5⟩,?_⟩ ?_ h.ps h.hs))
   · show pc+1<qa9 f.old.cls
     omega
   · show((d.bs++now).length:Int)=64*((pc+1:Nat):Int)
     rw[hl];omega
   · show(d.bs++now).length<=512
     rw[hl];omega
 · exact .sameM hok ⟨rfl,rfl⟩ h.hs (.inr (h.six rfl rfl rfl (Nat.zero_le _) h.ps h.hs))
 · exact .sameM hok ⟨rfl,rfl⟩ h.hs (.inr (h.six rfl rfl rfl (Nat.zero_le _) h.ps h.hs))
theorem qs3{e:Nat}{l:List ChgC}{code:Int}{M1:qa4}(hok:OkA M n th)(hn:n<=40000)(ht:t<th)(hsz:∀x∈l,x.key.size<=1000000)(hr:PubR M e l code M1):OkA M1 (n+3) th/\M1.D.length=M.D.length/\M1.now=M.now/\M1.dur=M.dur/\M1.S.length=M.S.length:=by
 rcases hr with⟨_,rfl,_⟩|⟨_,h1,h2,h3,h4,h5,gr,h6⟩
 · exact⟨hok.mono (by omega),rfl,rfl,rfl,rfl⟩
 · have h:=(qm7 hok (by have:=h1.2.1;omega) ht h1 h3 h4 h5 hsz h6 [] (by simp)).1
   exact⟨h.ok.mono (by have:=h1.2.1;omega),h.d,h.now.1,h.now.2,by rw[h.s]⟩
theorem OkR.of3(hok:OkA M' (n+3) th)(hl:M'.D.length=M.D.length)(hn:M'.now=M.now/\M'.dur=M.dur)(hc:f'.call=f.call/\d'.gr=d.gr)(hh:d'.hs.length<=1000)(hf:f'.phase=7\/FrOK M.D.length f' d'):OkR M n th f d M' f' d':=⟨hok,hl,hn,hc,hh,hf⟩
theorem qon(hok:OkA M n th)(hn:n<=40000)(ht:t<th)(h:FrOK M.D.length f d)(hk4:¬f.call.kind=4)(hk7:¬f.call.kind=7)(hr:qu9 M f d M' f' d'):OkR M n th f d M' f' d':=by
 obtain⟨rfl,code,M1,hp,(⟨_,rfl,rfl⟩|⟨_,rfl,rfl⟩|⟨_,_,⟨S',hS,rfl⟩,rfl⟩)⟩:=hr;all_goals obtain⟨q1,q2,q3,q4,q5⟩:=qs3 hok hn ht (λx hx=>by rw[List.mem_singleton.1 hx];exact Nat.le_trans h.call.1 (by decide)) hp
 · exact .of3 q1 q2 ⟨q3,q4⟩ ⟨rfl,rfl⟩ h.hs (.inr (h.six rfl rfl rfl h.bs h.ps h.hs))
 · exact .of3 q1 q2 ⟨q3,q4⟩ ⟨rfl,rfl⟩ h.hs (.inr (h.one rfl rfl rfl hk4 (λe=>absurd e hk7) h.bs h.ps h.hs))
 · exact .of3 (q1.setS hS.len) q2 ⟨q3,q4⟩ ⟨rfl,rfl⟩ h.hs (.inr (h.six rfl rfl rfl h.bs h.ps h.hs))
theorem qv9(hok:OkA M n th)(hn:n<=40000)(ht:t<th)(h:FrOK M.D.length f d)(hp5:f.phase=5)(hk:f.call.kind=4\/f.call.kind=5)(hr:qyb M f d M' f' d'):OkR M n th f d M' f' d':=by
 have hk7:¬f.call.kind=7:=by omega
 obtain⟨rfl,code,M1,hp,(⟨_,rfl,rfl⟩|⟨_,rfl,rfl⟩|⟨_,_,⟨S',hS,rfl⟩,rfl⟩)⟩:=hr;all_goals obtain⟨q1,q2,q3,q4,q5⟩:=qs3 hok hn ht (λx hx=>by rw[List.mem_singleton.1 hx];exact Nat.zero_le _) hp
 · exact .of3 q1 q2 ⟨q3,q4⟩ ⟨rfl,rfl⟩ h.hs (.inr (h.six rfl rfl rfl h.bs h.ps h.hs))
 · by_cases h5:f.call.kind=5
   · rw[if_pos h5]
     exact .of3 q1 q2 ⟨q3,q4⟩ ⟨rfl,rfl⟩ h.hs (.inr (h.one rfl rfl rfl (by omega) (λe=>absurd e hk7) h.bs h.ps h.hs))
   · rw[if_neg h5]
     exact .of3 q1 q2 ⟨q3,q4⟩ ⟨rfl,rfl⟩ h.hs (.inr (h.five rfl rfl hp5 (λe=>absurd e hk7) h.bs h.ps h.hs))
 · exact .of3 (q1.setS hS.len) q2 ⟨q3,q4⟩ ⟨rfl,rfl⟩ h.hs (.inr (h.six rfl rfl rfl h.bs h.ps h.hs))
end
end
section
open Go.RowKit
section
variable {M M':qa4}{n th t:Nat}{f f':qa5}{d d':FrD}
theorem qrl(hok:OkA M n th)(h:FrOK M.D.length f d)(hk:f.call.kind=5)(hr:FdT M f d M' f' d'):OkR M n th f d M' f' d':=by
 rcases hr with⟨y,hy,rfl,rfl,rfl⟩|⟨_,rfl,f4,(⟨_,rfl,rfl⟩|⟨_,⟨S',hS,rfl⟩,rfl⟩),rfl⟩
 · have hm:y∈M'.Q:=by
    cases hq:M'.Q with
    |nil=>rw[hq]at hy;cases hy
    |cons z zs=>rw[hq]at hy;cases hy;exact List.mem_cons_self
   exact .sameM hok ⟨rfl,rfl⟩ h.hs (.inr (h.two rfl rfl rfl (by omega) (by omega) ⟨qlg (hok.lq y hm),rfl⟩ (Nat.zero_le _) h.ps h.hs))
 · exact .sameM hok ⟨rfl,rfl⟩ h.hs (.inr (h.six rfl rfl rfl h.bs h.ps h.hs))
 · exact .setS hok hS.len ⟨rfl,rfl⟩ h.hs (.inr (h.six rfl rfl rfl h.bs h.ps h.hs))
theorem qrk{now:List UInt8}{pc:Nat}(hok:OkA M n th)(h:FrOK M.D.length f d)(hp2:f.phase=2)(hk:f.call.kind=5)(hpc:f.piece=(pc:Int))(hnow:now.length=64)(hr:RdT M f d now pc M' f' d'):OkR M n th f d M' f' d':=by
 have hk4:¬f.call.kind=4:=by omega
 have hk7:¬f.call.kind=7:=by omega
 obtain⟨⟨a,b,e1,e2,e3,e4,e5⟩,hbs⟩:=h.rd hp2;have h8:=qyn f.old.cls;rcases hr with⟨rfl,hne,A',c',rfl,rfl⟩|⟨_,rfl,f2,rfl,(⟨_,f4,(⟨_,rfl,rfl⟩|⟨_,⟨S',hS,rfl⟩,rfl⟩),rfl⟩|⟨_,rfl,rfl⟩)⟩
 · have hl:(d.bs++now).length=d.bs.length+64:=by rw[List.length_append,hnow]
   refine .sameM hok ⟨rfl,rfl⟩ h.hs (.inr (h.two rfl rfl hp2 hk4 hk7 ⟨⟨a,pc+1,e1,rfl,e3,?_,e5⟩,?_⟩ ?_ h.ps h.hs))
   · show pc+1<qa9 f.old.cls
     omega
   · show((d.bs++now).length:Int)=64*((pc+1:Nat):Int)
     rw[hl];omega
   · show(d.bs++now).length<=512
     rw[hl];omega
 · exact .sameM hok ⟨rfl,rfl⟩ h.hs (.inr (h.six rfl rfl rfl (Nat.zero_le _) h.ps h.hs))
 · exact .setS hok hS.len ⟨rfl,rfl⟩ h.hs (.inr (h.six rfl rfl rfl (Nat.zero_le _) h.ps h.hs))
 · refine .sameM hok ⟨rfl,rfl⟩ h.hs (.inr ?_)
   by_cases hl:f.line<0
   · exact h.three rfl rfl (if_pos hl) (λe=>absurd e hk7) (Nat.zero_le _) h.ps h.hs
   · exact h.five rfl rfl (if_neg hl) (λe=>absurd e hk7) (Nat.zero_le _) h.ps h.hs
theorem FrOK.on{i:Nat}(h:FrOK M.D.length f d)(hk:f.call.kind=7)(hi:i<d.gr.length)(hgn:f.call.gn=d.gr.length)(hc:f'.call=f.call)(hg:d'.gr=d.gr)(hps:d'.ps.length=d.gr.length)(hat:f'.at'=((i+1:Nat):Int))(hp:f'.phase=if i+1=f.call.gn then 5 else 1)(hb:d'.bs.length<=512)(hhs:d'.hs.length<=1000):FrOK M.D.length f' d':=by
 have hl:=h.gr.1;rw[hgn]at hp;by_cases hlast:i+1=d.gr.length
 · rw[if_pos hlast]at hp
   exact h.five hc hg hp (λ_=>hps) hb (by omega) hhs
 · rw[if_neg hlast]at hp
   exact h.one hc hg hp (by omega) (λ_=>⟨⟨i+1,hat,by omega⟩,hps⟩) hb (by omega) hhs
theorem qt3{c:qa7}{pt:qas}{i:Nat}(hok:OkA M n th)(h:FrOK M.D.length f d)(hk:f.call.kind=7)(hp1:f.phase=1)(hgn:f.call.gn=d.gr.length)(hat:f.at'=(i:Int))(hr:qBe M f d c pt i M' f' d'):OkR M n th f d M' f' d':=by
 have hl:=h.gr.1;obtain⟨⟨i',hi',hlt⟩,hps⟩:=(h.grp hk).2.1 (.inl hp1);obtain rfl:i=i':=by omega
 obtain⟨rfl,(⟨_,rfl,y,_,_,rfl⟩|⟨pt',_,rfl,(⟨_,rfl⟩|⟨_,_,rfl⟩)⟩)⟩:=hr
 · exact .sameM hok ⟨rfl,rfl⟩ h.hs (.inr ⟨h.ph,h.kind,h.call,h.gr,h.g1,h.enq,h.grp,h.wr,h.wrg,h.rd,h.bs,h.ps,h.hs⟩)
 · exact .sameM hok ⟨rfl,rfl⟩ h.hs (.inr (h.on (i:=i) hk hlt hgn rfl rfl (by simp only[List.length_set];exact hps) rfl rfl h.bs h.hs))
 · exact .sameM hok ⟨rfl,rfl⟩ h.hs (.inr (h.three rfl rfl rfl (λ_=>⟨⟨i,hat,hlt⟩,by simp only[List.length_set];exact hps⟩) h.bs (by simp only[List.length_set];omega) h.hs))
theorem qt1{c:qa7}{pt:qas}{i:Nat}(hok:OkA M n th)(h:FrOK M.D.length f d)(hk:f.call.kind=7)(hp3:f.phase=3)(hat:f.at'=(i:Int))(hr:qBd M f d c pt i M' f' d'):OkR M n th f d M' f' d':=by
 have hl:=h.gr.1;obtain⟨⟨i',hi',hlt⟩,hps⟩:=(h.grp hk).2.1 (.inr (.inl hp3));obtain rfl:i=i':=by omega
 obtain⟨ln,code,M1,ht,(⟨h0,rfl,rfl,rfl⟩|⟨_,rfl,S',ps',hS,rfl,hpl,rfl⟩)⟩:=hr
 · obtain⟨q1,q2,q3,q4,q5,q6⟩:=qfm hok ht
   refine .of q1 q2 ⟨q3,q4⟩ ⟨rfl,rfl⟩ h.hs (.inr (h.four rfl rfl rfl (λe=>absurd hk e) (λ_=>⟨⟨i,hat,hlt⟩,by simp only[List.length_set];exact hps⟩) (λ_ j hj hjl=>?_) h.bs (by simp only[List.length_set];omega) h.hs));have hj':f.at'=(j:Int):=hj;obtain rfl:j=i:=by omega
   have e:(d.ps.set j {pt with cls:=qbh (qcz c),line:=ln})[j]'hjl= {pt with cls:=qbh (qcz c),line:=ln}:=List.getElem_set_self ..;show qdc M.D.length ((d.ps.set j {pt with cls:=qbh (qcz c),line:=ln})[j]'hjl).line ((d.ps.set j {pt with cls:=qbh (qcz c),line:=ln})[j]'hjl).cls 0
   rw[e];exact q6 h0
 · obtain⟨q1,q2,q3,q4,q5,q6⟩:=qfm hok ht
   exact .of (q1.setS hS) q2 ⟨q3,q4⟩ ⟨rfl,rfl⟩ h.hs (.inr (h.six rfl rfl rfl h.bs (by have:=h.ps;simp only;omega) h.hs))
theorem qqb{c:qa7}{k:Int}{nn p i:Nat}(hok:OkA M n th)(h:FrOK M.D.length f d)(hk:f.call.kind=7)(hp4:f.phase=4)(hgn:f.call.gn=d.gr.length)(hat:f.at'=(i:Int))(hpc:f.piece=(p:Int))(hi:i<d.ps.length)(hkk:k=d.ps[i].cls)(hp:p<qa9 k)(hr:qBc M f d c k nn p i M' f' d'):OkR M n th f d M' f' d':=by
 have hl:=h.gr.1;obtain⟨⟨i',hi',hlt⟩,hps⟩:=(h.grp hk).2.1 (.inr (.inr hp4));obtain rfl:i=i':=by omega
 obtain⟨rfl,rfl,(⟨_,rfl⟩|⟨hne,rfl⟩)⟩:=hr
 · exact .setD hok (qh0 _ _ _ _ _) ⟨rfl,rfl⟩ h.hs (.inr (h.on (i:=i) hk hlt hgn rfl rfl hps rfl rfl h.bs h.hs))
 · refine .setD hok (qh0 _ _ _ _ _) ⟨rfl,rfl⟩ h.hs (.inr (h.four rfl rfl hp4 (λe=>absurd hk e) (λ_=>⟨⟨i,hat,hlt⟩,hps⟩) (λ_ j hj hjl=>?_) h.bs h.ps h.hs))
   have hj':f.at'=(j:Int):=hj;obtain rfl:j=i:=by omega
   obtain⟨a,b,e1,e2,e3,e4,e5⟩:=h.wrg hp4 hk j hat hjl;exact⟨a,p+1,e1,rfl,e3,by subst hkk;show p+1<qa9 d'.ps[j].cls;omega,e5⟩
theorem qqw(h:FrOK M.D.length f d):∀x∈chgs d,x.key.size<=1000000:=by
 intro x hx;obtain⟨i,hi,rfl⟩:=List.getElem_of_mem hx;have hl:(chgs d).length=min d.gr.length d.ps.length:=List.length_zipWith ..;rw[qki hi (by omega) (by omega)];exact Nat.le_trans (h.gr.2.1 _ (List.getElem_mem (by omega:i<d.gr.length))).1 (by decide)
theorem qwh(hok:OkA M n th)(hn:n<=40000)(ht:t<th)(h:FrOK M.D.length f d)(hk:f.call.kind=7)(hp5:f.phase=5)(hr:qyd M f d M' f' d'):OkR M n th f d M' f' d':=by
 have hl:=h.gr.1;have hl1:=h.g1 hk;have hps:=(h.grp hk).2.2 hp5;have hpl:=h.ps;have hcl:(chgs d).length<=1000:=by
  have:(chgs d).length=min d.gr.length d.ps.length:=List.length_zipWith ..;omega
 obtain⟨code,M1,hp,(⟨_,S',ps',A,c,hS,rfl,hq,rfl,rfl⟩|⟨_,rfl,ps',hq,rfl,rfl⟩|⟨_,_,rfl,S',ps',hS,rfl,hq,rfl⟩)⟩:=hr;all_goals obtain⟨q1,q2,q3,q4,q5⟩:=qs3 hok hn ht (qqw h) hp
 · have hh:((chgs d).map hadB).length<=1000:=by rw[List.length_map];exact hcl
   exact .of3 (q1.setS hS) q2 ⟨q3,q4⟩ ⟨rfl,rfl⟩ hh (.inr (h.six rfl rfl rfl h.bs (by show ps'.length<=1000;omega) hh))
 · exact .of3 q1 q2 ⟨q3,q4⟩ ⟨rfl,rfl⟩ h.hs (.inr (h.one rfl rfl rfl (by omega) (λ_=>⟨⟨0,rfl,by omega⟩,by show ps'.length=_;omega⟩) h.bs (by show ps'.length<=1000;omega) h.hs))
 · exact .of3 (q1.setS hS) q2 ⟨q3,q4⟩ ⟨rfl,rfl⟩ h.hs (.inr (h.six rfl rfl rfl h.bs (by show ps'.length<=1000;omega) h.hs))
end
end
section
open Go.RowKit
def qC4(M M':qa4):Prop:=M'.clo=M.clo/\M'.step=M.step/\M'.rnow=M.rnow/\(qC5 M.bag->qC5 M'.bag)
theorem qC4.refl(M:qa4):qC4 M M:=⟨rfl,rfl,rfl,id⟩
theorem qC4.eq{M M':qa4}(h:M'=M):qC4 M M':=by rw[h];exact .refl _
theorem qC4.dev{M M':qa4}{D:List qab}(h:M'= {M with D:=D}):qC4 M M':=by rw[h];exact⟨rfl,rfl,rfl,id⟩
section
variable {M M':qa4}{n th t:Nat}{f f':qa5}{d d':FrD}
theorem qFa{e:Nat}{l:List ChgC}{gr:Nat}(h:qen e M l M' gr):qC4 M M':=by
 induction h with
 |nil=>exact .refl _
 |skip _ _ ih=>exact ih
 |step _ _ _ _ ih=>exact⟨ih.1,ih.2.1,ih.2.2.1,λhb=>(ih.2.2.2 hb).ch⟩
theorem qCa{e:Nat}{l:List ChgC}{code:Int}(h:PubR M e l code M'):qC4 M M':=by
 rcases h with⟨_,rfl,_⟩|⟨_,_,_,_,_,_,gr,h⟩
 · exact .refl _
 · exact qFa h
theorem qE8{h0:Nat}{go:qa5->qa5}(h:qmk M t f d h0 go M' f' d'):qC4 M M':=by
 obtain⟨_,(⟨_,rfl,_⟩|⟨_,_,rfl,_⟩|⟨_,_,rfl,_⟩)⟩:=h <;> exact⟨rfl,rfl,rfl,id⟩
theorem qFl(h:FdR M f d M' f' d'):qC4 M M':=by
 obtain⟨r,_,(⟨y,_,_,rfl,_⟩|⟨_,hg⟩)⟩:=h
 · exact .refl _
 · rcases hg with⟨_,_,rfl,_⟩|⟨_,_,rfl,_⟩|⟨_,_,_,⟨_,_,rfl⟩,_⟩|⟨_,_,_,rfl,_⟩|⟨_,_,_,rfl,_⟩|⟨_,_,_,rfl,_⟩ <;> exact⟨rfl,rfl,rfl,id⟩
theorem qDh{c ln code:Int}(h:qi2 M c ln code M'):qC4 M M':=by
 rcases h with⟨_,_,_,rfl⟩|⟨_,_,_,rfl,_⟩|⟨i,k,hi,_,_,_,_,rfl⟩ <;> exact⟨rfl,rfl,rfl,id⟩
theorem qD7(h:qua M t f d M' f' d'):qC4 M M':=by
 obtain⟨rfl,_⟩:=h;exact⟨rfl,rfl,rfl,id⟩
theorem qF2(h:qu9 M f d M' f' d'):qC4 M M':=by
 obtain⟨_,code,M1,hp,(⟨_,rfl,_⟩|⟨_,rfl,_⟩|⟨_,_,⟨S',_,rfl⟩,_⟩)⟩:=h
 · have q:=qCa hp;exact q
 · have q:=qCa hp;exact q
 · have q:=qCa hp;exact q
theorem qEz(h:qyb M f d M' f' d'):qC4 M M':=by
 obtain⟨_,code,M1,hp,(⟨_,rfl,_⟩|⟨_,rfl,_⟩|⟨_,_,⟨S',_,rfl⟩,_⟩)⟩:=h
 · have q:=qCa hp;exact q
 · have q:=qCa hp;exact q
 · have q:=qCa hp;exact q
theorem qEm(h:FdT M f d M' f' d'):qC4 M M':=by
 rcases h with⟨y,_,rfl,_⟩|⟨_,_,f4,(⟨_,rfl,_⟩|⟨_,⟨S',_,rfl⟩,_⟩),_⟩ <;> exact⟨rfl,rfl,rfl,id⟩
theorem qEl{now:List UInt8}{pc:Nat}(h:RdT M f d now pc M' f' d'):qC4 M M':=by
 rcases h with⟨rfl,_⟩|⟨_,_,f2,_,(⟨_,f4,(⟨_,rfl,_⟩|⟨_,⟨S',_,rfl⟩,_⟩),_⟩|⟨_,rfl,_⟩)⟩ <;> exact⟨rfl,rfl,rfl,id⟩
theorem qE7{h0:Nat}(h:qyh M t f d h0 M' f' d'):qC4 M M':=by
 rcases h with⟨_,_,rfl,_⟩|⟨_,_,_,rfl,_⟩|⟨_,_,_,rfl,_⟩ <;> exact⟨rfl,rfl,rfl,id⟩
theorem qEp{c:qa7}{pt:qas}{i:Nat}(h:qBd M f d c pt i M' f' d'):qC4 M M':=by
 obtain⟨ln,code,M1,ht,(⟨_,rfl,_⟩|⟨_,_,S',ps',_,rfl,_⟩)⟩:=h
 · have q:=qDh ht;exact q
 · have q:=qDh ht;exact q
theorem qF7(h:qyd M f d M' f' d'):qC4 M M':=by
 obtain⟨code,M1,hp,(⟨_,S',ps',A,c,_,rfl,_⟩|⟨_,rfl,_⟩|⟨_,_,_,S',ps',_,rfl,_⟩)⟩:=h
 · have q:=qCa hp;exact q
 · have q:=qCa hp;exact q
 · have q:=qCa hp;exact q
def OkRK(M:qa4)(n th:Nat)(f1:qa5)(d1:FrD)(M':qa4)(f':qa5)(d':FrD):Prop:=OkR M n th f1 d1 M' f' d'/\qC4 M M'
end
end
section
open Go.RowKit
theorem qtp{B:Nat->List qa3}{i:Nat}:∀{n:Nat},i<n->(B i).length<=(catB B n).length
 |0,h=>absurd h (Nat.not_lt_zero _)
 |n+1,h=>by
  have hs:(catB B (n+1)).length=(catB B n).length+(B n).length:=(congrArg List.length (show catB B (n+1)=catB B n++B n from rfl)).trans List.length_append
  rcases Nat.lt_succ_iff_lt_or_eq.1 h with h|rfl
  · have:=qtp (B:=B) h;omega
  · omega
section
variable {g:Own8}{w:World}{lo a b t n th:Nat}{P:qag}{M:qa4}{ty:TypeId}{f:qa5}{d:FrD}
theorem qal.mono{R R':qa4->qa5->FrD->Prop}(hr:∀M' f' d',R M' f' d'->R' M' f' d'){e:Ending}{w':World}(h:qal lo a P b t ty R g w e w'):qal lo a P b t ty R' g w e w':=by
 obtain⟨h1,M',f',d',h2,h3⟩:=h;exact⟨h1,M',f',d',hr _ _ _ h2,h3⟩
theorem VTo.leave{e:Ending}{w':World}(h:VTo lo a P b t ty g w {M with H:=M.H.set t 0} {f with phase:=7} d e w'):qal lo a P b t ty (qua M t f d) g w e w':=⟨h.1,_,_,_,⟨rfl,rfl,rfl⟩,h.2⟩
theorem qnh(hok:OkA M n th)(key:ByteArray)(hn:n<=40000):(M.T (bucket key)).length<=1000000:=by
 have h1:=qtp (B:=M.T) (qb6 key);have h2:=hok.few.t;omega
theorem qq3(hok:OkA M n th)(hn:n<=40000)(ht:t<th)(h:FrOK M.D.length f d)(hk:f.call.kind=1\/f.call.kind=2\/f.call.kind=3)(k:Nat)(hk7:k<7)(hph:f.phase=(k:Int))(hw:WSt g w lo a P M b t ty f d)(hlo:lo<=w.heap.size):
 Calls prog (ptN k) #[.pointer (some ⟨b,0,none⟩)] w (qal lo a P b t ty (OkRK M n th f d) g w):=by
 have hth:t<M.H.length:=by rw[hok.th.1];exact ht
 have h4:¬f.call.kind=4:=by omega
 have h7:¬f.call.kind=7:=by omega
 have hc1:=h.call.1;have hc2:=h.call.2;rcases k with _|_|_|_|_|_|_|k
 · exact(qhh hw hth).mono λ_ _=>qal.mono λ_ _ _ hr=>⟨qiv hok h ⟨h4,h7⟩ hr,qE8 hr⟩
 · exact(qiu hw (by omega) (qnh hok _ hn)).mono λ_ _=>qal.mono λ_ _ _ hr=>⟨qlb hok h hk hr,qFl hr⟩
 · obtain⟨⟨ol,pc,e1,e2,e3,e4,e5⟩,hbs⟩:=h.rd hph
   exact(qit hw ol pc e1 e2 (by omega) (by have:=h.bs;omega) hlo).mono λ_ _=>qal.mono λ_ _ _ hr=>⟨ql7 hok h hph h4 h7 e2 (qab.hn _) hr,.eq hr.1⟩
 · exact(qir hw (by omega) (by omega)).mono λ_ _=>qal.mono λ_ _ _ hr=>⟨ql6 hok h h7 hr,(by obtain⟨_,_,_,ht,_⟩:=hr;exact qDh ht)⟩
 · obtain⟨nn,p,e1,e2,e3,e4,e5⟩:=h.wr hph h7
   exact(qhf hw hc1 hc2 nn p e1 e2 e3 e4 e5).mono λ_ _=>qal.mono λ_ _ _ hr=>⟨qyj hok h hph h7 e2 e4 hr,.dev hr.2.1⟩
 · exact(qf2 hw hok hn ht (by omega) (by omega)).mono λ_ _=>qal.mono λ_ _ _ hr=>⟨qon hok hn ht h h4 h7 hr,qF2 hr⟩
 · exact(qhg hw hth).mono λ_ _ hv=>qal.mono (λ_ _ _ hr=>⟨qgs hok h hr,qD7 hr⟩) (VTo.leave hv)
 · omega
theorem qpo(hok:OkA M n th)(hn:n<=40000)(ht:t<th)(h:FrOK M.D.length f d)(hk:f.call.kind=4\/f.call.kind=5)(k:Nat)(hk7:k<7)(hph:f.phase=(k:Int))(hw:WSt g w lo a P M b t ty f d)(hlo:lo<=w.heap.size):
 Calls prog (tlN k) #[.pointer (some ⟨b,0,none⟩)] w (qal lo a P b t ty (OkRK M n th f d) g w):=by
 have hth:t<M.H.length:=by rw[hok.th.1];exact ht
 have h7:¬f.call.kind=7:=by omega
 have hc1:=h.call.1;have hc2:=h.call.2;rcases k with _|_|_|_|_|_|_|k
 · exact(qmr hw hth).mono λ_ _=>qal.mono λ_ _ _ hr=>⟨qpq hok h hk hr,qE8 hr⟩
 · have h5:f.call.kind=5:=by
    rcases hk with h4|h5
    · exact absurd hph (h.enq h4).1
    · exact h5
   exact(qpp hw).mono λ_ _=>qal.mono λ_ _ _ hr=>⟨qrl hok h h5 hr,qEm hr⟩
 · have h5:f.call.kind=5:=by
    rcases hk with h4|h5
    · exact absurd hph (h.enq h4).2
    · exact h5
   obtain⟨⟨ol,pc,e1,e2,e3,e4,e5⟩,hbs⟩:=h.rd hph;exact(qpn hw ol pc e1 e2 (by omega) (by have:=h.bs;omega) hlo).mono λ_ _=>qal.mono λ_ _ _ hr=>⟨qrk hok h hph h5 e2 (qab.hn _) hr,qEl hr⟩
 · exact(qpl hw (by omega) (by omega)).mono λ_ _=>qal.mono λ_ _ _ hr=>⟨qri hok h h7 hr,(by obtain⟨_,_,_,ht,_⟩:=hr;exact qDh ht)⟩
 · obtain⟨nn,p,e1,e2,e3,e4,e5⟩:=h.wr hph h7
   exact(qmp hw hc1 hc2 nn p e1 e2 e3 e4 e5).mono λ_ _=>qal.mono λ_ _ _ hr=>⟨qyj hok h hph h7 e2 e4 hr,.dev hr.2.1⟩
 · exact(qjp hw hok hn ht (by omega)).mono λ_ _=>qal.mono λ_ _ _ hr=>⟨qv9 hok hn ht h hph hk hr,qEz hr⟩
 · exact(qmq hw hth).mono λ_ _ hv=>qal.mono (λ_ _ _ hr=>⟨qgs hok h hr,qD7 hr⟩) (VTo.leave hv)
 · omega
theorem qqe(hok:OkA M n th)(hn:n<=40000)(ht:t<th)(h:FrOK M.D.length f d)(hk:f.call.kind=7)(k:Nat)(hk7:k<7)(hph:f.phase=(k:Int))(hw:WSt g w lo a P M b t ty f d)(hlo:lo<=w.heap.size):
 Calls prog (grN k) #[.pointer (some ⟨b,0,none⟩)] w (qal lo a P b t ty (OkRK M n th f d) g w):=by
 have hth:t<M.H.length:=by rw[hok.th.1];exact ht
 have hgl:=h.gr.1;have hg1:=h.g1 hk;have hgn:f.call.gn=d.gr.length:=hw.grp.1.2.1;rcases k with _|_|_|_|_|_|_|k
 · exact(qno hw hth hg1 (by omega) hlo).mono λ_ _=>qal.mono λ_ _ _ hr=>⟨qqg hok h hk hr,qE7 hr⟩
 · obtain⟨⟨i,hi,hlt⟩,hps⟩:=(h.grp hk).2.1 (.inl hph)
   have hcs:=h.gr.2.1 d.gr[i] (List.getElem_mem hlt);exact(qqf hw i hi (by omega) hlt (by omega) (by have:=hcs.1;omega) (qnh hok _ hn)).mono λ_ _=>qal.mono λ_ _ _ hr=>⟨qt3 hok h hk hph hgn hi hr,.eq hr.1⟩
 · exact absurd hph (h.grp hk).1
 · obtain⟨⟨i,hi,hlt⟩,hps⟩:=(h.grp hk).2.1 (.inr (.inl hph))
   have hcs:=h.gr.2.1 d.gr[i] (List.getElem_mem hlt);exact(qqc hw i hi hlt (by omega) (by omega) (by omega) hcs.1 hcs.2).mono λ_ _=>qal.mono λ_ _ _ hr=>⟨qt1 hok h hk hph hi hr,qEp hr⟩
 · obtain⟨⟨i,hi,hlt⟩,hps⟩:=(h.grp hk).2.1 (.inr (.inr hph))
   have hcs:=h.gr.2.1 d.gr[i] (List.getElem_mem hlt);have hpi:i<d.ps.length:=by omega
   obtain⟨nn,p,e1,e2,e3,e4,e5⟩:=h.wrg hph hk i hi hpi;exact(qnm hw i nn p hi hlt hpi (by omega) hcs.1 hcs.2 e1 e2 e3 e4 e5).mono λ_ _=>qal.mono λ_ _ _ hr=>⟨qqb hok h hk hph hgn hi e2 hpi rfl e4 hr,.dev hr.1⟩
 · have hps:=(h.grp hk).2.2 hph
   exact(qkc hw hok hn ht hps (by omega) (λx hx=>⟨Nat.le_trans (h.gr.2.1 x hx).1 (by decide),Nat.le_trans (h.gr.2.1 x hx).2 (by decide)⟩) hlo).mono λ_ _=>qal.mono λ_ _ _ hr=>⟨qwh hok hn ht h hk hph hr,qF7 hr⟩
 · exact(qnn hw hth).mono λ_ _ hv=>qal.mono (λ_ _ _ hr=>⟨qgs hok h hr,qD7 hr⟩) (VTo.leave hv)
 · omega
theorem qdm.phase{f1:qa5}{d1:FrD}(hs:qdm f d f1 d1):f1.phase=f.phase/\f1.call.kind=f.call.kind:=by
 obtain⟨y,bA,bc,pA,pc,hA,hc,he,hy⟩:=hs.eq;exact⟨by rw[he];rfl,by rw[he];exact hy.kind⟩
theorem qs4(h:qa6 g w a P M)(hok:OkA M n th)(hn:n<=40000)(ht:t<th)(hf:qbt w w.heap.size f d.gr d.bs d.ps d.hs)(hfr:FrOK M.D.length f d)(hk:f.call.kind=1\/f.call.kind=2\/f.call.kind=3):
 Calls prog 109 #[.pointer (some ⟨a,0,none⟩),.int .i64 (t:Int),f.v] w (qcy a P (OkRK M n th) f d g w):=by
 have hp:=hfr.ph;refine qis h f d hf hfr.fit (by omega) (by omega) f.phase.toNat (by omega) (by omega) (λg1 W b lo f1 d1 hs hw hlo=>?_) (λf1 d1 M' f' d' hr=>hr.1.call);exact qq3 hok hn ht (hfr.same hs) (by rw[hs.phase.2];exact hk) _ (by omega) (by rw[hs.phase.1];omega) hw hlo
theorem qrj(h:qa6 g w a P M)(hok:OkA M n th)(hn:n<=40000)(ht:t<th)(hf:qbt w w.heap.size f d.gr d.bs d.ps d.hs)(hfr:FrOK M.D.length f d)(hk:f.call.kind=4\/f.call.kind=5):
 Calls prog 110 #[.pointer (some ⟨a,0,none⟩),.int .i64 (t:Int),f.v] w (qcy a P (OkRK M n th) f d g w):=by
 have hp:=hfr.ph;refine qpm h f d hf hfr.fit f.phase.toNat ?_ (by omega) (by omega) (λg1 W b lo f1 d1 hs hw hlo=>?_) (λf1 d1 M' f' d' hr=>hr.1.call)
 · rcases hk with h4|h5
   · exact .inr ⟨h4,by have:=(hfr.enq h4).1;omega,by have:=(hfr.enq h4).2;omega⟩
   · exact .inl h5
 · exact qpo hok hn ht (hfr.same hs) (by rw[hs.phase.2];exact hk) _ (by omega) (by rw[hs.phase.1];omega) hw hlo
theorem qt2(h:qa6 g w a P M)(hok:OkA M n th)(hn:n<=40000)(ht:t<th)(hf:qbt w w.heap.size f d.gr d.bs d.ps d.hs)(hfr:FrOK M.D.length f d)(hk:f.call.kind=7):
 Calls prog 112 #[.pointer (some ⟨a,0,none⟩),.int .i64 (t:Int),f.v] w (qcy a P (OkRK M n th) f d g w):=by
 have hp:=hfr.ph;have hg:=hfr.grp hk;refine qqd h f d hf hfr.fit f.phase.toNat hk (by have:=hg.1;omega) (by omega) (by omega) (λhc=>?_) (λhc=>hg.2.2 (by omega)) (λg1 W b lo f1 d1 hs hw hlo=>?_) (λf1 d1 M' f' d' hr=>hr.1.call)
 · obtain⟨⟨i,hi,hlt⟩,hps⟩:=hg.2.1 (by omega)
   exact⟨by omega,by omega,hps⟩
 · exact qqe hok hn ht (hfr.same hs) (by rw[hs.phase.2];exact hk) _ (by omega) (by rw[hs.phase.1];omega) hw hlo
end
end
section
open Go.RowKit
structure ThrC where
 busy:Bool
 f:qa5
 st:Int
def ThrC.enc(x:ThrC):List Value:=.bool x.busy::(x.f.enc++[.int .i64 x.st])
theorem ThrC.enc_len(x:ThrC):x.enc.length=30:=rfl
def qig:qa7:=⟨0,ByteArray.empty,ByteArray.empty,ByteArray.empty,none,0,0⟩
def qt5:qa5:={call:=qig,phase:=0,ep:=0,pos:=ByteArray.empty,past:=false,level:=0,had:=false,old:=qak,line:=0,cls:=0,piece:=0,bA:=none,bn:=0,bc:=0,at':=0,pA:=none,pn:=0,pc:=0,code:=0,found:=false,vl:=ByteArray.empty,hA:=none,hn:=0,hc:=0,aep:=0}
def thr0:ThrC:=⟨false,qt5,0⟩
structure CfgC where
 n:Nat
 th:Nat
 rest:Int
 ph:Int
 left:Int
 st:Int
def wldA(c:CfgC)(dp a:Nat):List Value:=[.int .i64 (c.n:Int),.int .i64 (c.th:Int),.int .i64 c.rest,.pointer (some ⟨dp,0,none⟩),.pointer (some ⟨a,0,none⟩),.pointer none,.int .i64 c.ph,.int .i64 c.left]
def wldB(st steps:Int)(sA:Option Addr)(sn sc:Nat):List Value:=[.int .i64 steps,.int .i64 st,.slice none 0 0,.slice sA sn sc]
def wldC(c:CfgC)(dp a:Nat)(T:List ThrC)(steps:Int)(sA:Option Addr)(sn sc:Nat):List Value:=wldA c dp a++(T.flatMap ThrC.enc++wldB c.st steps sA sn sc)
theorem qof{c:CfgC}{dp a:Nat}{T:List ThrC}{steps:Int}{sA:Option Addr}{sn sc:Nat}(hT:T.length=4):(wldC c dp a T steps sA sn sc).length=132:=by
 unfold wldC;rw[List.length_append,List.length_append,qao ThrC.enc_len,hT];rfl
section
variable {c:CfgC}{dp a:Nat}{T:List ThrC}{steps:Int}{sA:Option Addr}{sn sc:Nat}
theorem qjl{j:Nat}(hj:j<8):(wldC c dp a T steps sA sn sc)[j]? =(wldA c dp a)[j]? :=List.getElem?_append_left (by show j<8;exact hj)
theorem qjk(hT:T.length=4){j:Nat}:(wldC c dp a T steps sA sn sc)[128+j]? =(wldB c.st steps sA sn sc)[j]? :=by
 unfold wldC;rw[List.getElem?_append_right (by show 8<=_;omega),List.getElem?_append_right (by rw[qao ThrC.enc_len,hT];show 4*30<=128+j-8;omega),qao ThrC.enc_len,hT];rw[show 128+j-(wldA c dp a).length-4*30=j by show 128+j-8-4*30=j;omega]
theorem qjj{t j:Nat}(ht:t<T.length)(hj:j<30):(wldC c dp a T steps sA sn sc)[8+t*30+j]? =(T[t].enc)[j]? :=by
 unfold wldC;rw[List.getElem?_append_right (by show 8<=_;omega),show 8+t*30+j-(wldA c dp a).length=t*30+j by show 8+t*30+j-8=_;omega,List.getElem?_append_left (by rw[qao ThrC.enc_len];omega),qb0 ThrC.enc_len T t ht j hj]
end
structure WBox(w:World)(wb:Nat)(c:CfgC)(dp a:Nat)(T:List ThrC)(steps:Int)(sA:Option Addr)(sn sc:Nat):Prop where
 row:w.heap[wb]? =some (.cells (wldC c dp a T steps sA sn sc).toArray 94 (0,0))
 len:T.length=4
section
variable {w:World}{wb:Nat}{c:CfgC}{dp a:Nat}{T:List ThrC}{steps:Int}{sA:Option Addr}{sn sc:Nat}
theorem WBox.lt(h:WBox w wb c dp a T steps sA sn sc):wb<w.heap.size:=qa0 h.row
theorem WBox.fr(h:WBox w wb c dp a T steps sA sn sc)(j:Nat):w.frozen? ⟨wb,j,none⟩=false:=frozen_of_row w wb j _ _ h.row
theorem WBox.head(h:WBox w wb c dp a T steps sA sn sc)(j:Nat){v:Value}(hj:j<8)(hv:(wldA c dp a)[j]? =some v):w.cell? ⟨wb,j,none⟩=some v:=
 (cell_of_row w wb j _ _ _ h.row).trans (by rw[List.getElem?_toArray,qjl hj];exact hv)
theorem WBox.tail(h:WBox w wb c dp a T steps sA sn sc)(j:Nat){v:Value}(hv:(wldB c.st steps sA sn sc)[j]? =some v):w.cell? ⟨wb,128+j,none⟩=some v:=
 (cell_of_row w wb (128+j) _ _ _ h.row).trans (by rw[List.getElem?_toArray,qjk h.len];exact hv)
theorem WBox.thr(h:WBox w wb c dp a T steps sA sn sc){t:Nat}(ht:t<T.length)(j:Nat){v:Value}(hj:j<30)(hv:(T[t].enc)[j]? =some v):w.cell? ⟨wb,8+t*30+j,none⟩=some v:=
 (cell_of_row w wb (8+t*30+j) _ _ _ h.row).trans (by rw[List.getElem?_toArray,qjj ht hj];exact hv)
theorem WBox.same{w':World}(h:WBox w wb c dp a T steps sA sn sc)(hb:w'.heap[wb]? =w.heap[wb]?):WBox w' wb c dp a T steps sA sn sc:=⟨hb.trans h.row,h.len⟩
theorem qdn(h:WBox w wb c dp a T steps sA sn sc)(t:Nat)(ht:t<c.th)(h4:c.th<=4):Calls prog 80 #[.pointer (some ⟨wb,0,none⟩),.int .i64 (t:Int)] w λe w'=>e=.returned (.tuple #[.pointer (some ⟨wb,8+t*30,none⟩),.int .i64 0])/\w'=w:=by
 have c4:=h.head 4 (by omega) rfl;have c1:=h.head 1 (by omega) rfl;have hl:=h.lt;have d1:decide ((t:Int)<0)=false:=decide_eq_false (by omega);have d2:decide ((c.th:Int)<=(t:Int))=false:=decide_eq_false (by omega);have i1:(0:Int)<=(t:Int):=by omega
 have i2:(t:Int)<4:=by omega
 clear h;go_enter func80,ntmps80;go_wp2_with fail;go_ret2;exact⟨rfl,rfl⟩
end
end
end Go.Proofs.YtecikkjbnkhhkaaGreat
