/- A part of the walk. -/
import Derived.Test.YtecikkjbnkhhkaaGreatP40
namespace Go.Proofs.YtecikkjbnkhhkaaGreat
open _root_.Go.Proofs.Tryz
open Go.RowKit
theorem qyp{w:World}{b:Nat}{t:TypeId}{cur:Array Value}{L:List Value}(h:w.heap[b]? =some (.cells cur t (0,0)))(hc:∀j,w.cell? ⟨b,j,none⟩=L[j]?):w.heap[b]? =some (.cells L.toArray t (0,0)):=by
 have e:cur=L.toArray:=Array.ext' (List.ext_getElem? λj=>by
  have h1:=cell_of_row w b j cur t _ h
  rw[hc j]at h1
  rw[Array.getElem?_toList] 
  exact h1.symm)
 rw[<-e];exact h
section
variable {w:World}{wb:Nat}{c:CfgC}{dp a:Nat}{T:List ThrC}{steps:Int}{sA:Option Addr}{sn sc:Nat}
theorem WBox.there(h:WBox w wb c dp a T steps sA sn sc){o n:Nat}(ho:o+n<=132):w.there wb o n:=by
 have hs:(wldC c dp a T steps sA sn sc).toArray.size=132:=by rw[List.size_toArray];exact qof h.len
 intro j hj;refine⟨?_,h.fr _⟩;rw[cell_of_row w wb (o+j) _ _ _ h.row,Array.getElem?_eq_getElem (by rw[hs];omega)];rfl
theorem WBox.range(h:WBox w wb c dp a T steps sA sn sc){t:Nat}(ht:t<T.length){o:Nat}{vs:List Value}(ho:o+vs.length<=30)(x':ThrC)(hin:∀j,j<vs.length->(x'.enc)[o+j]? =vs[j]?)(hout:∀j,j<30->(j<o\/o+vs.length<=j)->(x'.enc)[j]? =(T[t].enc)[j]?):
 WBox (w.setCells wb (8+t*30+o) vs) wb c dp a (T.set t x') steps sA sn sc:=by
 have hlen:=h.len;have hl':(T.set t x').length=4:=by rw[List.length_set];exact hlen
 obtain⟨cur',hr,_⟩:=qe3 vs (8+t*30+o) w _ h.row;have hth:=h.there (o:=8+t*30+o) (n:=vs.length) (by omega);refine⟨qyp hr λj=>?_,hl'⟩;have hold:w.cell? ⟨wb,j,none⟩=(wldC c dp a T steps sA sn sc)[j]? :=(cell_of_row w wb j _ _ _ h.row).trans List.getElem?_toArray;by_cases hj:8+t*30+o<=j/\j<8+t*30+o+vs.length
 · obtain⟨i,rfl⟩:∃i,j=8+t*30+o+i:=⟨j-(8+t*30+o),by omega⟩
   have hi:i<vs.length:=by omega
   rw[World.cell?_setCells_in wb vs (8+t*30+o) w (λi hi=>(hth i hi).1) i hi,show 8+t*30+o+i=8+t*30+(o+i)by omega,qjj (by rw[List.length_set];exact ht) (by omega),List.getElem_set_self,hin i hi,List.getElem?_eq_getElem hi]
 · rw[World.cell?_setCells_out wb vs (8+t*30+o) w ⟨wb,j,none⟩ (λ_ _=>by
    show j<8+t*30+o\/8+t*30+o+vs.length<=j
    omega),hold]
   by_cases h8:j<8
   · rw[qjl h8,qjl h8]
   · by_cases h128:j<128
     · obtain⟨q,r,rfl,hr30⟩:∃q r,j=8+q*30+r/\r<30:=⟨(j-8)/30,(j-8)%30,by omega,by omega⟩
       have hq:q<T.length:=by omega
       rw[qjj hq hr30,qjj (by rw[List.length_set];exact hq) hr30,List.getElem_set];split
       · rename_i e
         subst e;exact(hout r hr30 (by omega)).symm
       · rfl
     · obtain⟨q,rfl⟩:∃q,j=128+q:=⟨j-128,by omega⟩
       rw[qjk hlen,qjk hl']
theorem WBox.setTail(h:WBox w wb c dp a T steps sA sn sc){j:Nat}(hj:j<4)(v:Value){steps':Int}{sA':Option Addr}{sn' sc':Nat}(hv:(wldB c.st steps sA sn sc).set j v=wldB c.st steps' sA' sn' sc'):WBox (w.setCell ⟨wb,128+j,none⟩ v) wb c dp a T steps' sA' sn' sc':=by
 refine⟨?_,h.len⟩;have hr:=qay h.row (128+j) v;rw[hr];congr 3;unfold wldC;have hl:(wldA c dp a).length=8:=rfl;have hf:(T.flatMap ThrC.enc).length=120:=by rw[qao ThrC.enc_len,h.len]
 rw[List.set_append_right _ _ (by rw[hl];omega),List.set_append_right _ _ (by rw[hl,hf];omega),hl,hf,show 128+j-8-120=j by omega,hv]
end
def KW(g:Own8)(n wb:Nat)(r:Option Nat)(x:Nat):Prop:=x<n/\g x=0/\x≠wb/\r≠some x
structure WAt(g:Own8)(w:World)(wb a:Nat)(P:qag)(M:qa4)(c:CfgC)(T:List ThrC)(D:Nat->FrD)(steps:Int)(sA:Option Addr)(sc:Nat)(S:List qap):Prop where
 ar:qa6 g w a P M
 bx:WBox w wb c P.dp a T steps sA S.length sc
 gb:g wb=0
 st:Own qap.enc 68 14 w 0 sA sc S/\qc8 g 0 sA sc/\qa8 sA sc≠some wb
 thr:∀i (h:i<T.length),FrAt (KW g w.heap.size wb (qa8 sA sc)) w T[i].f (D i)
theorem LocK.lt{K:Nat->Prop}{α:Type}{enc:α->List Value}{k:Nat}{w:World}{A:Option Addr}{n c:Nat}{l:List α}(hs:Sl enc k w w.heap.size A n c l)(h:LocK K A l):LocK (λx=>K x/\x<w.heap.size) A l:=by
 rcases h with h|⟨x,off,hA,hk⟩
 · exact .inl h
 · rcases hs.1 with h0|⟨b,o,hA',hb,_⟩
   · exact .inl h0
   · rw[hA]at hA'
     cases hA'
     exact .inr ⟨x,off,hA,hk,hb⟩
theorem FrAt.lt{K:Nat->Prop}{w:World}{f:qa5}{d:FrD}(h:FrAt K w f d):FrAt (λx=>K x/\x<w.heap.size) w f d:=
 ⟨h.fin,.lt h.fin.grp h.grp,.lt h.fin.bytes h.byt,.lt h.fin.parts h.prt,.lt h.fin.hits h.hit⟩
section
variable {g g':Own8}{w w':World}{wb a t:Nat}{P:qag}{M M':qa4}{c:CfgC}{T:List ThrC}{D:Nat->FrD}{steps:Int}{sA:Option Addr}{sc:Nat}{S:List qap}
theorem qfp{α:Type}{enc:α->List Value}{e:TypeId}{k lo:Nat}{l:List α}{A:Option Addr}{c:Nat}(h:Own enc e k w lo A c l){j:Nat}(hj:qa8 A c=some j):j<w.heap.size:=by
 obtain⟨cur,hc⟩:=qef h hj;exact qa0 hc
theorem WAt.ext(h:WAt g w wb a P M c T D steps sA sc S)(ar:qa6 g' w' a P M')(e:Ext g g' w w'):WAt g' w' wb a P M' c T D steps sA sc S:=by
 have hz:=e.only.size;have hl:=h.bx.lt;refine⟨ar,h.bx.same (e.nobody hl h.gb),(e.old _ hl).trans h.gb,⟨?_,λj hj=>(e.old _ (qfp h.st.1 hj)).trans (h.st.2.1 j hj),h.st.2.2⟩,λi hi=>?_⟩
 · by_cases h0:sc=0
   · exact⟨h.st.1.1,h.st.1.2.1,.inl h0⟩
   · exact h.st.1.keep λx off hA _ hx=>e.nobody hx (h.st.2.1 x (by rw[qa8,if_neg h0,hA];rfl))
 · exact((h.thr i hi).keep hz λx hx hK=>e.nobody hx hK.2.1).mono λx hK=>⟨by have:=hK.1;omega,(e.old _ hK.1).trans hK.2.1,hK.2.2⟩
theorem WAt.below(h:WAt g w wb a P M c T D steps sA sc S)(hb:Below w.heap.size w w'):WAt g w' wb a P M c T D steps sA sc S:=h.ext (h.ar.below hb) (.below hb)
theorem WAt.rebox(h:WAt g w wb a P M c T D steps sA sc S){c':CfgC}{T':List ThrC}{D':Nat->FrD}{steps':Int}(ho:w'.os=w.os/\w'.tape=w.tape/\w'.output=w.output/\w'.heap.size=w.heap.size)(hk:∀j,j≠wb->w'.heap[j]? =w.heap[j]?)(bx:WBox w' wb c' P.dp a T' steps' sA S.length sc)
 (thr:∀i (hi:i<T'.length),FrAt (KW g w.heap.size wb (qa8 sA sc)) w T'[i].f (D' i)):WAt g w' wb a P M c' T' D' steps' sA sc S:=by
 have hz:w.heap.size<=w'.heap.size:=by rw[ho.2.2.2];exact Nat.le_refl _
 refine⟨h.ar.nobody ⟨ho.1,ho.2.1,ho.2.2.1,hz,λj hj hn=>hk j λe=>hn (.inl (by rw[e];exact h.gb))⟩,bx,h.gb,⟨?_,h.st.2⟩,λi hi=>?_⟩
 · by_cases h0:sc=0
   · exact⟨h.st.1.1,h.st.1.2.1,.inl h0⟩
   · exact h.st.1.keep λx off hA _ hx=>hk x λe=>h.st.2.2 (by rw[qa8,if_neg h0,hA];show some x=some wb;rw[e])
 · rw[ho.2.2.2]
   exact(thr i hi).keep hz λx hx hK=>hk x hK.2.2.1
def updD(D:Nat->FrD)(t:Nat)(d:FrD):Nat->FrD:=λi=>if i=t then d else D i
theorem WAt.thrs(h:WAt g w wb a P M c T D steps sA sc S){x':ThrC}{d':FrD}(hf:FrAt (KW g w.heap.size wb (qa8 sA sc)) w x'.f d'):∀i (hi:i<(T.set t x').length),FrAt (KW g w.heap.size wb (qa8 sA sc)) w (T.set t x')[i].f (updD D t d' i):=by
 intro i hi;rw[List.getElem_set];unfold updD;by_cases e:t=i
 · rw[if_pos e,if_pos e.symm];exact hf
 · rw[if_neg e,if_neg (λh=>e h.symm)];exact h.thr i (by rw[List.length_set]at hi;exact hi)
theorem qc5(b o:Nat)(vs:List Value)(w:World):(w.setCells b o vs).os=w.os/\(w.setCells b o vs).tape=w.tape/\(w.setCells b o vs).output=w.output/\(w.setCells b o vs).heap.size=w.heap.size:=qam _ _ _ _
theorem WAt.setF(h:WAt g w wb a P M c T D steps sA sc S)(ht:t<T.length){f':qa5}{d':FrD}(hf:FrAt (KW g w.heap.size wb (qa8 sA sc)) w f' d'):WAt g (w.setCells wb (8+t*30+1) f'.enc) wb a P M c (T.set t {T[t]with f:=f'}) (updD D t d') steps sA sc S:=by
 refine h.rebox (qc5 _ _ _ _) (λj hj=>qaa _ _ _ _ _ hj) (h.bx.range ht (by rw[f'.enc_len];omega) {T[t]with f:=f'} (λj hj=>?_) (λj hj hc=>?_)) (h.thrs hf)
 · rw[f'.enc_len]at hj
   show(Value.bool T[t].busy::(f'.enc++[Value.int .i64 T[t].st]))[1+j]? =_
   rw[Nat.add_comm,List.getElem?_cons_succ,List.getElem?_append_left (by rw[f'.enc_len];exact hj)]
 · rw[f'.enc_len]at hc
   show(Value.bool T[t].busy::(f'.enc++[Value.int .i64 T[t].st]))[j]? =(Value.bool T[t].busy::(T[t].f.enc++[Value.int .i64 T[t].st]))[j]?
   rcases(by omega:j=0\/j=29)with rfl|rfl
   · rfl
   · rfl
theorem ThrC.enc_one(x:ThrC):∀v∈x.enc,v.oneCell'=true:=by
 intro v hv;rcases List.mem_cons.1 hv with rfl|hv
 · rfl
 · rcases List.mem_append.1 hv with hv|hv
   · exact x.f.enc_one v hv
   · rw[List.mem_singleton.1 hv];rfl
theorem WAt.setT(h:WAt g w wb a P M c T D steps sA sc S)(ht:t<T.length)(x':ThrC){d':FrD}(hf:FrAt (KW g w.heap.size wb (qa8 sA sc)) w x'.f d'):WAt g (w.setCells wb (8+t*30) x'.enc) wb a P M c (T.set t x') (updD D t d') steps sA sc S:=by
 refine h.rebox (qc5 _ _ _ _) (λj hj=>qaa _ _ _ _ _ hj) ?_ (h.thrs hf);exact h.bx.range (o:=0) ht (by rw[x'.enc_len];omega) x' (λj _=>by rw[Nat.zero_add]) (λj hj hc=>by rw[x'.enc_len]at hc;omega)
theorem qAz{K:Nat->Prop}{W:World}:FrAt K W qt5 ⟨[],[],[],[]⟩:=⟨⟨Sl.nil,Sl.nil,Sl.nil,Sl.nil⟩,.inl rfl,.inl rfl,.inl rfl,.inl rfl⟩
end
theorem Own.setStory{w:World}{lo:Nat}{b off c:Nat}{l:List qap}(h:Own qap.enc 68 14 w lo (some ⟨b,off,none⟩) c l){i:Nat}(hi:i<l.length){m:Nat}(hm:m<14)(v:Value)(x':qap)(hx:(qap.enc l[i]).set m v=qap.enc x'):
 Own qap.enc 68 14 (w.setCell ⟨b,off+i*14+m,none⟩ v) lo (some ⟨b,off,none⟩) c (l.set i x'):=by
 obtain⟨h1,h2,h3⟩:=h;rcases h3 with h3|⟨b',off',cur,hA,hlo,hh,hs,hc⟩
 · omega
 cases hA
 refine⟨by rw[List.length_set];exact h1,h2,.inr ⟨b,off,cur.setIfInBounds (off+i*14+m) v,rfl,hlo,heap_setCell_same w b _ cur _ _ hh,by simpa using hs,?_⟩⟩;intro j u hu;have hlt:=(List.getElem?_eq_some_iff.1 hu).1;rw[qao qap.enc_len,List.length_set]at hlt;obtain⟨q,r,rfl,hq,hr⟩:∃q r,j=q*14+r/\q<l.length/\r<14:=⟨j/14,j%14,by omega,by omega,by omega⟩;rw[qb0 qap.enc_len _ q (by rw[List.length_set];exact hq) r hr,List.getElem_set]at hu;have hold:=λu'=>hc (q*14+r) u'
 rw[qb0 qap.enc_len l q hq r hr]at hold;rw[Array.getElem?_setIfInBounds];by_cases hqi:i=q
 · subst hqi
   rw[if_pos rfl,<-hx,List.getElem?_set]at hu;by_cases hrm:m=r
   · subst hrm
     rw[if_pos rfl,if_pos (by rw[qap.enc_len];exact hm)]at hu;rw[if_pos (by omega),if_pos (by omega)];exact hu
   · rw[if_neg hrm]at hu
     rw[if_neg (by omega)];exact hold u hu
 · rw[if_neg hqi]at hu
   rw[if_neg (by omega)];exact hold u hu
section
variable {g g':Own8}{w w':World}{wb a t:Nat}{P:qag}{M M':qa4}{c:CfgC}{T:List ThrC}{D:Nat->FrD}{steps:Int}{sA:Option Addr}{sc:Nat}{S:List qap}
theorem WAt.setSt(h:WAt g w wb a P M c T D steps sA sc S){sb so i:Nat}(hA:sA=some ⟨sb,so,none⟩)(hi:i<S.length){m:Nat}(hm:m<14)(v:Value)(x':qap)(hx:(qap.enc S[i]).set m v=qap.enc x'):WAt g (w.setCell ⟨sb,so+i*14+m,none⟩ v) wb a P M c T D steps sA sc (S.set i x'):=by
 have hsc:¬sc=0:=by have:=h.st.1.1;omega
 have hrow:qa8 sA sc=some sb:=by rw[hA,qa8,if_neg hsc];rfl
 have hg0:=h.st.2.1 sb hrow;have hbw:sb≠wb:=λe=>h.st.2.2 (by rw[hrow,e])
 have hk:∀j,j≠sb->(w.setCell ⟨sb,so+i*14+m,none⟩ v).heap[j]? =w.heap[j]? :=λj hj=>Below.heap_setCell _ _ _ _ hj
 have hz:(w.setCell ⟨sb,so+i*14+m,none⟩ v).heap.size=w.heap.size:=World.size_setCell ..;have hst:=h.st.1;rw[hA]at hst;refine⟨h.ar.set0 hg0 _ _,?_,h.gb,⟨?_,h.st.2.1,h.st.2.2⟩,λj hj=>?_⟩
 · rw[List.length_set];exact h.bx.same (hk wb (λe=>hbw e.symm))
 · rw[hA];exact hst.setStory hi hm v x' hx
 · rw[hz]
   exact(h.thr j hj).keep (by rw[hz];exact Nat.le_refl _) λx _ hK=>hk x λe=>hK.2.2.2 (by rw[hrow,e])
def qdy(w:World)(wb t:Nat)(f0:qa5)(n:Int):World:=((w.setCell ⟨wb,8+t*30,none⟩ (.bool true)).setCells wb (8+t*30+1) f0.enc).setCell ⟨wb,8+t*30+29,none⟩ (.int .i64 n)
theorem qma(h:WBox w wb c P.dp a T steps sA S.length sc)(ht:t<T.length)(f0:qa5)(n:Int):
 (w.setCell ⟨wb,8+t*30,none⟩ (.bool true)).there wb (8+t*30+1) 28 /\
 (∃v,((w.setCell ⟨wb,8+t*30,none⟩ (.bool true)).setCells wb (8+t*30+1) f0.enc).cell? ⟨wb,8+t*30+29,none⟩=some v) /\
 (∀o,((w.setCell ⟨wb,8+t*30,none⟩ (.bool true)).setCells wb (8+t*30+1) f0.enc).frozen? ⟨wb,o,none⟩=false)/\wb<((w.setCell ⟨wb,8+t*30,none⟩ (.bool true)).setCells wb (8+t*30+1) f0.enc).heap.size/\WBox (qdy w wb t f0 n) wb c P.dp a (T.set t ⟨true,f0,n⟩) steps sA S.length sc:=by
 have b1:WBox (w.setCell ⟨wb,8+t*30,none⟩ (.bool true)) wb c P.dp a (T.set t ⟨true,T[t].f,T[t].st⟩) steps sA S.length sc:=h.range (o:=0) (vs:=[.bool true]) ht (by show 0+1<=30;omega) ⟨true,T[t].f,T[t].st⟩ (λj hj=>by
  have:j=0:=by have:j<1:=hj;omega
  subst this;rfl) (λj hj hc=>by
  have:1<=j:=by have:j<0\/0+1<=j:=hc;omega
  obtain⟨q,rfl⟩:∃q,j=q+1:=⟨j-1,by omega⟩
  rfl)
 have ht1:t<(T.set t ⟨true,T[t].f,T[t].st⟩).length:=by rw[List.length_set];exact ht
 have e1:(T.set t ⟨true,T[t].f,T[t].st⟩)[t]=⟨true,T[t].f,T[t].st⟩:=List.getElem_set_self ..;have b2:=b1.range (o:=1) (vs:=f0.enc) ht1 (by rw[f0.enc_len];omega) ⟨true,f0,T[t].st⟩ (λj hj=>by
  rw[f0.enc_len]at hj
  show(Value.bool true::(f0.enc++[Value.int .i64 T[t].st]))[1+j]? =_
  rw[Nat.add_comm,List.getElem?_cons_succ,List.getElem?_append_left (by rw[f0.enc_len];exact hj)]) (λj hj hc=>by
  rw[f0.enc_len]at hc
  rw[e1]
  rcases(by omega:j=0\/j=29)with rfl|rfl
  · rfl
  · rfl)
 have ht2:t<((T.set t ⟨true,T[t].f,T[t].st⟩).set t ⟨true,f0,T[t].st⟩).length:=by rw[List.length_set];exact ht1
 have e2:((T.set t ⟨true,T[t].f,T[t].st⟩).set t ⟨true,f0,T[t].st⟩)[t]=⟨true,f0,T[t].st⟩:=List.getElem_set_self ..;have b3:WBox (((w.setCell ⟨wb,8+t*30,none⟩ (.bool true)).setCells wb (8+t*30+1) f0.enc).setCell ⟨wb,8+t*30+29,none⟩ (.int .i64 n)) wb c P.dp a (((T.set t ⟨true,T[t].f,T[t].st⟩).set t ⟨true,f0,T[t].st⟩).set t ⟨true,f0,n⟩) steps sA S.length sc:=b2.range (o:=29) (vs:=[.int .i64 n]) ht2 (by show 29+1<=30;omega) ⟨true,f0,n⟩ (λj hj=>by
  have:j=0:=by have:j<1:=hj;omega
  subst this;rfl) (λj hj hc=>by
  have hj29:j<29:=by have:j<29\/29+1<=j:=hc;omega
  rw[e2]
  show(Value.bool true::(f0.enc++[Value.int .i64 n]))[j]? =(Value.bool true::(f0.enc++[Value.int .i64 T[t].st]))[j]?
  rcases j with _|j
  · rfl
  · rw[List.getElem?_cons_succ,List.getElem?_cons_succ,List.getElem?_append_left (by rw[qa5.enc_len];omega),List.getElem?_append_left (by rw[qa5.enc_len];omega)])
 rw[List.set_set,List.set_set]at b3;rw[List.set_set]at b2;have htl:=h.len;have hc29:=b2.thr (t:=t) (v:=.int .i64 T[t].st) (by rw[List.length_set];exact ht) 29 (by omega) (by rw[List.getElem_set_self];rfl);refine⟨?_,?_,?_,?_,?_⟩
 · exact b1.there (by omega)
 · exact⟨_,hc29⟩
 · exact b2.fr
 · exact b2.lt
 · exact b3
theorem qcm(w:World)(p:Addr)(v:Value):(w.setCell p v).os=w.os/\(w.setCell p v).tape=w.tape/\(w.setCell p v).output=w.output:=⟨rfl,rfl,rfl⟩
theorem qpa(w:World)(wb t:Nat)(f0:qa5)(n:Int):(qdy w wb t f0 n).os=w.os/\(qdy w wb t f0 n).tape=w.tape/\(qdy w wb t f0 n).output=w.output/\(qdy w wb t f0 n).heap.size=w.heap.size:=by
 have ho:=qc5 wb (8+t*30+1) f0.enc (w.setCell ⟨wb,8+t*30,none⟩ (.bool true));unfold qdy;refine⟨?_,?_,?_,?_⟩
 · rw[(qcm _ _ _).1,ho.1,(qcm _ _ _).1]
 · rw[(qcm _ _ _).2.1,ho.2.1,(qcm _ _ _).2.1]
 · rw[(qcm _ _ _).2.2,ho.2.2.1,(qcm _ _ _).2.2]
 · rw[World.size_setCell,ho.2.2.2,World.size_setCell]
theorem WAt.begun(h:WAt g w wb a P M c T D steps sA sc S)(ht:t<T.length){f0:qa5}{d':FrD}(hf:FrAt (KW g w.heap.size wb (qa8 sA sc)) w f0 d')(n:Int):WAt g (qdy w wb t f0 n) wb a P M c (T.set t ⟨true,f0,n⟩) (updD D t d') steps sA sc S:=by
 refine h.rebox (qpa _ _ _ _ _) (λj hj=>?_) (qma h.bx ht f0 n).2.2.2.2 (h.thrs (x':=⟨true,f0,n⟩) hf)
 · unfold qdy
   rw[Below.heap_setCell _ _ _ _ hj,qaa _ _ _ _ _ hj,Below.heap_setCell _ _ _ _ hj]
end
end Go.Proofs.YtecikkjbnkhhkaaGreat
