/- A part of the walk. -/
import Derived.Test.YtecikkjbnkhhkaaGreatP04
import Derived.Test.YtecikkjbnkhhkaaGreatP06
import Derived.Test.YtecikkjbnkhhkaaGreatP10
import Derived.Lib.BufferWrite
namespace Go.Proofs.YtecikkjbnkhhkaaGreat
open _root_.Go.Proofs.Tryz
set_option maxHeartbeats 2000000
section
open Go.RowKit
structure Only(F:Nat->Prop)(w w':World):Prop where
 os:w'.os=w.os
 tape:w'.tape=w.tape
 output:w'.output=w.output
 size:w.heap.size<=w'.heap.size
 block:∀j,j<w.heap.size->¬F j->w'.heap[j]? =w.heap[j]?
theorem Only.refl(F:Nat->Prop)(w:World):Only F w w:=⟨rfl,rfl,rfl,Nat.le_refl _,λ_ _ _=>rfl⟩
theorem Only.trans{F:Nat->Prop}{a b c:World}(h:Only F a b)(k:Only F b c):Only F a c:=
 ⟨k.os.trans h.os,k.tape.trans h.tape,k.output.trans h.output,Nat.le_trans h.size k.size,λj hj hn=>(k.block j (Nat.lt_of_lt_of_le hj h.size) hn).trans (h.block j hj hn)⟩
theorem Only.of_below{F:Nat->Prop}{w w':World}(h:Below w.heap.size w w'):Only F w w':=⟨h.os,h.tape,h.output,h.size,λj hj _=>h.block j hj⟩
theorem Only.below{F:Nat->Prop}{lo:Nat}{w w':World}(h:Only F w w')(hF:∀j,F j->lo<=j)(hlo:lo<=w.heap.size):Below lo w w':=
 ⟨h.os,h.tape,h.output,h.size,λj hj=>h.block j (Nat.lt_of_lt_of_le hj hlo) λhf=>absurd (hF j hf) (by omega)⟩
theorem Only.grown{F:Nat->Prop}{w w':World}{row:Option Nat}(h:w.grownBy w' row)(hF:∀j,row=some j->F j):Only F w w':=
 ⟨h.os,h.tape,h.output,h.size,λj hj hn=>h.block j hj λhr=>hn (hF j hr.symm)⟩
theorem Only.mono{F G:Nat->Prop}{w w':World}(h:Only F w w')(hFG:∀j,F j->G j):Only G w w':=⟨h.os,h.tape,h.output,h.size,λj hj hn=>h.block j hj λhf=>hn (hFG j hf)⟩
theorem Only.setCell{F:Nat->Prop}{w w':World}(h:Only F w w')(p:Addr)(v:Value)(hp:F p.block):Only F w (w'.setCell p v):=
 h.trans ⟨rfl,rfl,rfl,by simp,λj hj hn=>Below.heap_setCell _ _ _ _ λhb=>hn (hb ▸ hp)⟩
theorem Own.keep2{α:Type}{enc:α->List Value}{e:TypeId}{k:Nat}{w w':World}{lo:Nat}{A:Option Addr}{c:Nat}{l:List α}(h:Own enc e k w lo A c l)
 (hk:c=0\/∀b off,A=some ⟨b,off,none⟩->b<w.heap.size->w'.heap[b]? =w.heap[b]?):Own enc e k w' lo A c l:=by
 rcases hk with hk|hk
 · exact⟨h.1,h.2.1,.inl hk⟩
 · exact h.keep λb off hA _ hlt=>hk b off hA hlt
def Lies(F:Nat->Prop)(p:Nat)(A:Option Addr)(c:Nat):Prop:=c=0\/∀b o,A=some ⟨b,o,none⟩->F b/\b≠p
theorem Own.row{α:Type}{enc:α->List Value}{e:TypeId}{k:Nat}{w:World}{lo:Nat}{A:Option Addr}{c:Nat}{l:List α}{F:Nat->Prop}{p:Nat}(h:Own enc e k w lo A c l)(hl:Lies F p A c):
 ∀j,qa8 A c=some j->F j/\j≠p:=by
 intro j hj;unfold qa8 at hj;split at hj
 · cases hj
 · rcases h.2.2 with h0|⟨b,off,cur,rfl,_⟩
   · exact absurd h0 ‹_›
   · rcases hl with hl|hl
     · exact absurd hl ‹_›
     · simp at hj
       subst hj;exact hl b off rfl
theorem qnz{w:World}{p:Addr}{v:Value}(h:w.cell? p=some v):p.block<w.heap.size:=by
 rcases Nat.lt_or_ge p.block w.heap.size with h'|h'
 · exact h'
 · unfold World.cell? at h
   rw[Array.getElem?_eq_none h']at h;cases h
theorem qaj{w w':World}{p:Addr}(h:w'.heap[p.block]? =w.heap[p.block]?):w'.cell? p=w.cell? p:=by unfold World.cell?;rw[h]
theorem qbg{w w':World}{p:Addr}(h:w'.heap[p.block]? =w.heap[p.block]?):w'.frozen? p=w.frozen? p:=by unfold World.frozen?;rw[h]
def upd(lv:Nat->List qa3)(k:Nat)(l:List qa3):Nat->List qa3:=λj=>if j=k then l else lv j
structure qgc(F:Nat->Prop)(w:World)(ob:Nat)(lv:Nat->List qa3)(A:Nat->Option Addr)(c:Nat->Nat):Prop where
 cell:∀i,i<4->w.cell? ⟨ob,i,none⟩=some (.slice (A i) (lv i).length (c i))
 frz:∀i,w.frozen? ⟨ob,i,none⟩=false
 own:∀i,i<4->Own qa3.enc 85 5 w 0 (A i) (c i) (lv i)
 lies:∀i,i<4->Lies F ob (A i) (c i)
 apart:∀i j,i<4->j<4->i≠j->∀b o o',A i=some ⟨b,o,none⟩->A j=some ⟨b,o',none⟩->c i=0\/c j=0
def Ord(F:Nat->Prop)(w:World)(ob:Nat)(lv:Nat->List qa3):Prop:=F ob/\∃A c,qgc F w ob lv A c
theorem qgc.lt{F:Nat->Prop}{w:World}{ob:Nat}{lv:Nat->List qa3}{A:Nat->Option Addr}{c:Nat->Nat}(h:qgc F w ob lv A c):ob<w.heap.size:=qnz (h.cell 0 (by omega))
theorem Ord.lt{F:Nat->Prop}{w:World}{ob:Nat}{lv:Nat->List qa3}(h:Ord F w ob lv):ob<w.heap.size:=by
 obtain⟨_,A,c,h⟩:=h;exact h.lt
theorem Lies.mono{F G:Nat->Prop}{p:Nat}{A:Option Addr}{c:Nat}(h:Lies F p A c)(hFG:∀j,F j->G j):Lies G p A c:=h.imp id λh b o hA=>⟨hFG b (h b o hA).1,(h b o hA).2⟩
theorem Ord.mono{F G:Nat->Prop}{w:World}{ob:Nat}{lv:Nat->List qa3}(h:Ord F w ob lv)(hFG:∀j,F j->G j):Ord G w ob lv:=by
 obtain⟨h0,A,c,h⟩:=h;exact⟨hFG _ h0,A,c,h.cell,h.frz,h.own,λi hi=>(h.lies i hi).mono hFG,h.apart⟩
theorem Ord.trim{F:Nat->Prop}{w:World}{ob:Nat}{lv:Nat->List qa3}(h:Ord F w ob lv):Ord (λj=>F j/\j<w.heap.size) w ob lv:=by
 have hlt:=h.lt;obtain⟨h0,A,c,h⟩:=h;refine⟨⟨h0,hlt⟩,A,c,h.cell,h.frz,h.own,λi hi=>?_,h.apart⟩;rcases(h.own i hi).lt with hc|⟨b,off,hA,_,hb⟩
 · exact .inl hc
 · rcases h.lies i hi with hl|hl
   · exact .inl hl
   · exact .inr λb' o' hA'=>by
      have:=hl b' o' hA';rw[hA]at hA';cases hA'
      exact⟨⟨this.1,hb⟩,this.2⟩
theorem Ord.congr{F:Nat->Prop}{w:World}{ob:Nat}{lv lv':Nat->List qa3}(h:Ord F w ob lv)(e:∀j,j<4->lv j=lv' j):Ord F w ob lv':=by
 obtain⟨h0,A,c,h⟩:=h;exact⟨h0,A,c,λi hi=>by rw[<-e i hi];exact h.cell i hi,h.frz,λi hi=>by rw[<-e i hi];exact h.own i hi,h.lies,h.apart⟩
theorem qgc.same{F:Nat->Prop}{w w':World}{ob:Nat}{lv:Nat->List qa3}{A:Nat->Option Addr}{c:Nat->Nat}(h:qgc F w ob lv A c)
 (h0:w'.heap[ob]? =w.heap[ob]?) (hr:∀i,i<4->c i=0\/∀b o,A i=some ⟨b,o,none⟩->b<w.heap.size->w'.heap[b]? =w.heap[b]?):qgc F w' ob lv A c:=
 ⟨λi hi=>(qaj h0).trans (h.cell i hi),λi=>(qbg h0).trans (h.frz i),λi hi=>(h.own i hi).keep2 (hr i hi),h.lies,h.apart⟩
theorem qgc.below{F:Nat->Prop}{w w':World}{ob:Nat}{lv:Nat->List qa3}{A:Nat->Option Addr}{c:Nat->Nat}(h:qgc F w ob lv A c)(hb:Below w.heap.size w w'):qgc F w' ob lv A c:=
 h.same (hb.block ob h.lt) λ_ _=>.inr λb _ _ hlt=>hb.block b hlt
theorem Ord.below{F:Nat->Prop}{w w':World}{ob:Nat}{lv:Nat->List qa3}(h:Ord F w ob lv)(hb:Below w.heap.size w w'):Ord F w' ob lv:=by
 obtain⟨h0,A,c,h⟩:=h;exact⟨h0,A,c,h.below hb⟩
theorem Ord.only{F G:Nat->Prop}{w w':World}{ob:Nat}{lv:Nat->List qa3}(h:Ord F w ob lv)(ho:Only G w w')(hG:∀j,F j->¬G j):Ord F w' ob lv:=by
 have hlt:=h.lt;obtain⟨h0,A,c,h⟩:=h;refine⟨h0,A,c,h.same (ho.block ob hlt (hG ob h0)) λi hi=>(h.lies i hi).imp id λhl b o hA hb=>ho.block b hb (hG b (hl b o hA).1)⟩
theorem qgc.put{F:Nat->Prop}{w W w3:World}{ob k:Nat}{lv:Nat->List qa3}{A:Nat->Option Addr}{c:Nat->Nat}(h:qgc F w ob lv A c)(h0:F ob)(hk:k<4)(hF:∀j,w.heap.size<=j->F j)
 (hW:Below w.heap.size w W) (hgr:W.grownBy w3 (qa8 (A k) (c k))) {A':Option Addr} {c' n:Nat} {l':List qa3} (hown:Own qa3.enc 85 5 w3 0 A' c' l') (hn:n=l'.length)
 (hloc:A'=A k/\c'=c k\/∃g,A'=some ⟨g,0,none⟩/\W.heap.size<=g):
 Ord F (w3.setCell ⟨ob,k,none⟩ (.slice A' n c')) ob (upd lv k l')/\Only F w (w3.setCell ⟨ob,k,none⟩ (.slice A' n c')):=by
 subst hn;have hob:=h.lt;have hWs:=hW.size;have hrow:=(h.own k hk).row (h.lies k hk);have hon:Only F w w3:=(Only.of_below hW).trans (Only.grown hgr λj hj=>(hrow j hj).1);have hb3:w3.heap[ob]? =w.heap[ob]? :=(hgr.block ob (by omega) λhr=>(hrow ob hr.symm).2 rfl).trans (hW.block ob hob);have hlies:Lies F ob A' c':=by
  rcases hloc with⟨rfl,rfl⟩|⟨g,rfl,hg⟩
  · exact h.lies k hk
  · exact .inr λb o hA=>by cases hA;exact⟨hF _ (by omega),by omega⟩
 have hoth:∀i,i<4->i≠k->c i=0\/∀b o,A i=some ⟨b,o,none⟩->b<w.heap.size->w3.heap[b]? =w.heap[b]? :=by
  intro i hi hik;by_cases hc0:c i=0
  · exact .inl hc0
  refine .inr λb o hA hlt=>(hgr.block b (by omega) λhr=>?_).trans (hW.block b hlt)
  unfold qa8 at hr;split at hr
  · cases hr
  · rename_i hck
    rcases(h.own k hk).2.2 with h0|⟨b',off',_,hAk,_⟩
    · exact hck h0
    · rw[hAk]at hr
      simp at hr;subst hr;rcases h.apart i k hi hk hik b o off' hA hAk with h|h
      · exact hc0 h
      · exact hck h
 have hset:∀b,b≠ob->(w3.setCell ⟨ob,k,none⟩ (.slice A' l'.length c')).heap[b]? =w3.heap[b]? :=λb hb=>Below.heap_setCell _ _ _ _ hb
 refine⟨⟨h0,λj=>if j=k then A' else A j,λj=>if j=k then c' else c j,?_,?_,?_,?_,?_⟩,hon.setCell _ _ h0⟩
 · intro i hi
   by_cases hik:i=k
   · subst hik
     simp only[upd,if_pos];exact World.cell?_setCell_same _ _ _ ((qaj (p:=⟨ob,i,none⟩) hb3).trans (h.cell i hi))
   · simp only[upd,if_neg hik]
     rw[World.cell?_setCell_other _ _ _ _ (by intro e;injection e with _ e;exact hik e.symm)];exact(qaj (p:=⟨ob,i,none⟩) hb3).trans (h.cell i hi)
 · intro i
   rw[World.frozen?_setCell];exact(qbg (p:=⟨ob,i,none⟩) hb3).trans (h.frz i)
 · intro i hi
   by_cases hik:i=k
   · subst hik
     simp only[upd,if_pos];exact hown.keep2 (hlies.imp id λh b o hA _=>hset b (h b o hA).2)
   · simp only[upd,if_neg hik]
     refine Own.keep2 ((h.own i hi).keep2 (w':=w3) (hoth i hi hik)) ((h.lies i hi).imp id λh b o hA _=>hset b (h b o hA).2)
 · intro i hi
   by_cases hik:i=k
   · simp only[if_pos hik];exact hlies
   · simp only[if_neg hik];exact h.lies i hi
 · have key:∀i,i<4->i≠k->∀b o o',A i=some ⟨b,o,none⟩->A'=some ⟨b,o',none⟩->c i=0\/c'=0:=by
    intro i hi hik b o o' hA hA';rcases hloc with⟨rfl,rfl⟩|⟨g,rfl,hg⟩
    · exact h.apart i k hi hk hik b o o' hA hA'
    · cases hA'
      rcases(h.own i hi).lt with hc|⟨b2,o2,hA2,_,hlt⟩
      · exact .inl hc
      · rw[hA]at hA2
        cases hA2
        omega
   intro i j hi hj hij b o o' hAi hAj;by_cases hik:i=k
   · have hjk:j≠k:=λe=>hij (hik.trans e.symm)
     simp only[if_pos hik,if_neg hjk]at hAi hAj ⊢;exact(key j hj hjk b o' o hAj hAi).symm
   · by_cases hjk:j=k
     · simp only[if_neg hik,if_pos hjk]at hAi hAj ⊢
       exact key i hi hik b o o' hAi hAj
     · simp only[if_neg hik,if_neg hjk]at hAi hAj ⊢
       exact h.apart i j hi hj hij b o o' hAi hAj
theorem qgc.put2{F:Nat->Prop}{w w3:World}{ob k:Nat}{lv:Nat->List qa3}{A:Nat->Option Addr}{c:Nat->Nat}(h:qgc F w ob lv A c)(h0:F ob)(hk:k<4)
 (hgr:w.grownBy w3 (qa8 (A k) (c k))) {l':List qa3} (hown:Own qa3.enc 85 5 w3 0 (A k) (c k) l') (hn:l'.length=(lv k).length):
 Ord F w3 ob (upd lv k l')/\Only F w w3:=by
 have hob:=h.lt;have hrow:=(h.own k hk).row (h.lies k hk);have hon:Only F w w3:=Only.grown hgr λj hj=>(hrow j hj).1
 have hb3:w3.heap[ob]? =w.heap[ob]? :=hgr.block ob hob λhr=>(hrow ob hr.symm).2 rfl
 refine⟨⟨h0,A,c,?_,?_,?_,h.lies,h.apart⟩,hon⟩
 · intro i hi
   have:=(qaj (p:=⟨ob,i,none⟩) hb3).trans (h.cell i hi);by_cases hik:i=k
   · subst hik
     rw[this,upd,if_pos rfl,hn]
   · rw[this,upd,if_neg hik]
 · exact λi=>(qbg (p:=⟨ob,i,none⟩) hb3).trans (h.frz i)
 · intro i hi
   by_cases hik:i=k
   · subst hik
     rw[upd,if_pos rfl];exact hown
   · rw[upd,if_neg hik]
     refine(h.own i hi).keep2 ?_;by_cases hc0:c i=0
     · exact .inl hc0
     refine .inr λb o hA hlt=>hgr.block b hlt λhr=>?_
     unfold qa8 at hr;split at hr
     · cases hr
     · rename_i hck
       rcases(h.own k hk).2.2 with h0|⟨b',off',_,hAk,_⟩
       · exact hck h0
       · rw[hAk]at hr
         simp at hr;subst hr;rcases h.apart i k hi hk hik b o off' hA hAk with h|h
         · exact hc0 h
         · exact hck h
end
section
open Go.RowKit
structure qan where
 cls:Int
 taken:List Bool
 n:Int
 ht:taken.length=8
def qan.enc(x:qan):List Value:=[.int .i64 x.cls]++x.taken.map Value.bool++[.int .i64 x.n]
theorem qan.enc_len(x:qan):x.enc.length=10:=by simp[qan.enc,x.ht]
theorem qan.e_cls(x:qan):x.enc[0]? =some (.int .i64 x.cls):=rfl
theorem qan.e_taken(x:qan){k:Nat}(hk:k<8):x.enc[1+k]? =some (.bool (x.taken[k]'(by rw[x.ht];exact hk))):=by
 have h1:k<x.taken.length:=by rw[x.ht];exact hk
 rw[qan.enc,List.append_assoc,List.getElem?_append_right (by simp),List.getElem?_append_left (by simp;omega),List.getElem?_map];simp only[List.length_cons,List.length_nil,Nat.zero_add,Nat.add_sub_cancel_left];rw[List.getElem?_eq_getElem h1];rfl
theorem qan.e_n(x:qan):x.enc[9]? =some (.int .i64 x.n):=by
 rw[qan.enc,List.getElem?_append_right (by simp[x.ht])];simp[x.ht]
structure qb8(w:World)(lo p sc:Nat)(S:List qan):Prop where
 box:w.heap[p]? =some (.cells #[.slice (some ⟨sc,0,none⟩) S.length S.length] 220 (0,0))
 rows:Own qan.enc 223 10 w lo (some ⟨sc,0,none⟩) S.length S
 lo:lo<=p/\lo<=sc/\p≠sc
 len:1<=S.length/\S.length<=32
structure qu8(w:World)(sc i:Nat)(x:qan):Prop where
 cls:w.cell? ⟨sc,i*10,none⟩=some (.int .i64 x.cls)
 taken:∀k (hk:k<8),w.cell? ⟨sc,i*10+1+k,none⟩=some (.bool (x.taken[k]'(by rw[x.ht];exact hk)))
 n:w.cell? ⟨sc,i*10+9,none⟩=some (.int .i64 x.n)
 fr:∀k,w.frozen? ⟨sc,k,none⟩=false
 lt:sc<w.heap.size
theorem qb8.slab{w:World}{lo p sc:Nat}{S:List qan}(h:qb8 w lo p sc S){i:Nat}(hi:i<S.length):qu8 w sc i S[i]:=by
 have hp:∀o v,o<10->S[i].enc[o]? =some v->w.rangeAt sc (0+i*10+o) [v]/\w.there sc (0+i*10+o) [v].length/\sc<w.heap.size:=λo v ho hv=>h.rows.part qan.enc_len hi (o:=o) (vs:=[v]) (by simp;omega) (λj hj=>by
  simp only[List.length_cons,List.length_nil]at hj
  obtain rfl:j=0:=by omega
  rw[Nat.add_zero,hv];rfl)
 have h0:=hp 0 _ (by omega) (qan.e_cls _);have h9:=hp 9 _ (by omega) (qan.e_n _);have hf:∀k,w.frozen? ⟨sc,k,none⟩=false:=λk=>by
  rcases h.rows.2.2 with h1|⟨b',o',cur,hA, -,hh, -⟩
  · have:=h.len;omega
  · cases hA
    exact frozen_of_row w sc k _ _ hh
 refine⟨?_,λk hk=>?_,?_,hf,h0.2.2⟩
 · have:=h0.1 0 _ rfl
   simpa using this
 · have:=(hp (1+k) _ (by omega) (qan.e_taken _ hk)).1 0 _ rfl
   rw[show 0+i*10+(1+k)+0=i*10+1+k by omega]at this;exact this
 · have:=h9.1 0 _ rfl
   simpa using this
theorem qhi(w:World)(lo p sc:Nat)(S:List qan)(h:qb8 w lo p sc S):Calls prog 323 #[.pointer (some ⟨p,0,none⟩)] w λe w'=>e=.returned (.slice (some ⟨sc,0,none⟩) S.length S.length)/\w'=w:=by
 have hp:=qa0 h.box;have p0:=cell_of_row w p 0 _ _ _ h.box;clear h;go_enter func323,ntmps323;go_wp2_with fail;go_ret;exact⟨rfl,rfl⟩
def qrc(x:qan)(w:World)(e:Ending)(w':World):Prop:=w'=w/\∃r:Int,e=.returned (.int .i64 r) /\
 ((r= -1/\∀j (h:j<x.taken.length),j<8/qa9 x.cls->x.taken[j]=true)\/∃k,∃h:k<x.taken.length,r=k/\k<8/qa9 x.cls/\x.taken[k]=false)
theorem qt4(w:World)(sc i:Nat)(x:qan)(h:qu8 w sc i x)(hc:¬qa9 x.cls=0):Calls prog 363 #[.pointer (some ⟨sc,i*10,none⟩)] w (qrc x w):=by
 have H:=hid h;have c0:=h.cls;have hlt:=h.lt;obtain⟨n,q,hn,hq,hn1,hn8,hq8⟩:∃n q:Nat,qa9 x.cls=n/\8/n=q/\1<=n/\n<=8/\q<=8:=by
  rcases qet x.cls with h|h|h|h|h
  · exact absurd h hc
  all_goals exact⟨_,_,h,rfl,by omega,by omega,by omega⟩
 have HN:=hid hn;have HQ:=hid hq;have HDI:=hid (show(8:Int)/(n:Int)=(q:Int)by rw[<-hq];rfl);have hne:((n:Int)==0)=false:=by rw[beq_eq_false_iff_ne];omega
 have hn0:¬(n:Int)=0:=by omega
 have hx:=x.ht;have HX:=hid hx;clear h hn hq hx;go_enter func363,ntmps363;go_wp2_with fail;refine(qaw x.cls w).mono ?_;rintro e w1⟨rfl,rfl⟩;rw[HN.out];go_wp2_with fail;rw[HDI.out];clear hne hn0 c0;go_loopw [3,10] (λ_ v10 wr=>∃k:Nat,k<=q/\v10=.int .i64 k/\wr=w1/\∀j (h:j<x.taken.length),j<k->x.taken[j]=true) (λ_ v10 _=>q-(intOf v10).toNat)
 case atStart=>exact⟨0,by omega,rfl,rfl,λj _ hj=>absurd hj (by omega)⟩
 case round =>
  obtain⟨k,hk,rfl,rfl,hall⟩:=hrel;have HALL:=hid hall;clear hall;by_cases hlt2:k<q
  · have hlti:(k:Int)<(q:Int):=by omega
    have hk8:(k:Int)<8:=by omega
    have hkt:k<x.taken.length:=by rw[HX.out];omega
    have tk:=H.out.taken k (by omega);cases hb:x.taken[k]with
    |true =>
     have HB:=hid hb;rw[hb]at tk;clear hb;go_wp2_with fail;exact⟨⟨k+1,by omega,by go_num,trivial,λj hj hjk=>by
      rcases(by omega:j<k\/j=k)with h1|rfl
      · exact HALL.out j hj h1
      · exact HB.out⟩,by simp[intOf];omega⟩
    |false =>
     have HB:=hid hb;rw[hb]at tk;clear hb;go_wp2_with fail;go_ret;exact⟨rfl,_,rfl,.inr ⟨k,hkt,rfl,by rw[HN.out,HQ.out];exact hlt2,HB.out⟩⟩
  · obtain rfl:k=q:=by omega
    go_wp2_with fail;go_ret;exact⟨rfl, -1,rfl,.inl ⟨rfl,λj hj hjq=>HALL.out j hj (by rw[HN.out,HQ.out]at hjq;exact hjq)⟩⟩
end
section
open Go.RowKit
def qan.put(x:qan)(c:Int)(k:Nat):qan:={cls:=c,taken:=x.taken.set k true,n:=wrap64 (x.n+1),ht:=by rw[List.length_set];exact x.ht}
theorem qan.cls_same(x:qan)(c:Int):∀j,j<0\/0+ [Value.int .i64 c].length<=j->({x with cls:=c}:qan).enc[j]? =x.enc[j]? :=λj hj=>by
 simp only[List.length_cons,List.length_nil]at hj
 obtain⟨i,rfl⟩:∃i,j=i+1:=⟨j-1,by omega⟩
 rfl
theorem qan.taken_same(x:qan)(k:Nat)(v:Bool):∀j,j<1+k\/1+k+ [Value.bool v].length<=j->({x with taken:=x.taken.set k v,ht:=by rw[List.length_set];exact x.ht}:qan).enc[j]? =x.enc[j]? :=λj hj=>by
 simp only[List.length_cons,List.length_nil]at hj
 have e:∀z:qan,z.enc[j]? =if j<1 then some (.int .i64 z.cls)else if j<9 then(z.taken.map Value.bool)[j-1]? else[Value.int .i64 z.n][j-9]? :=λz=>by
  rw[qan.enc]
  split
  · obtain rfl:j=0:=by omega
    rfl
  · split
    · rw[List.append_assoc,List.getElem?_append_right (by simp;omega),List.getElem?_append_left (by simp[z.ht];omega)]
      simp
    · rw[List.getElem?_append_right (by simp[z.ht];omega)]
      simp[z.ht]
 rw[e,e]
 by_cases h1:j<1
 · rw[if_pos h1,if_pos h1]
 · rw[if_neg h1,if_neg h1]
   by_cases h9:j<9
   · rw[if_pos h9,if_pos h9,List.map_set,List.getElem?_set_ne (by omega)]
   · rw[if_neg h9,if_neg h9]
theorem qan.n_same(x:qan)(v:Int):∀j,j<9\/9+ [Value.int .i64 v].length<=j->({x with n:=v}:qan).enc[j]? =x.enc[j]? :=λj hj=>by
 simp only[List.length_cons,List.length_nil]at hj
 rcases hj with hj|hj
 · have e:∀z:qan,z.enc[j]? =([Value.int .i64 z.cls]++z.taken.map Value.bool)[j]? :=λz=>by
    rw[qan.enc,List.getElem?_append_left (by simp[z.ht];omega)]
   rw[e,e]
 · rw[List.getElem?_eq_none (by rw[qan.enc_len];omega),List.getElem?_eq_none (by rw[qan.enc_len];omega)]
theorem qeu{enc:List Value}{o:Nat}{v:Value}(h:enc[o]? =some v):∀j,j < [v].length->enc[o+j]? =[v][j]? :=λj hj=>by
 simp only[List.length_cons,List.length_nil]at hj
 obtain rfl:j=0:=by omega
 rw[Nat.add_zero,h]
 rfl
def quc(lo p sc:Nat)(S:List qan)(w:World)(e:Ending)(w':World):Prop:=e=.returned (.tuple #[])/\qb8 w' lo p sc S/\Below lo w w'/\∀b,b≠sc->w'.heap[b]? =w.heap[b]?
theorem qro(w:World)(lo p sc:Nat)(S:List qan)(h:qb8 w lo p sc S)(i k:Nat)(hi:i<S.length)(hk:k<8)(c:Int):Calls prog 324 #[.pointer (some ⟨sc,i*10,none⟩),.int .i64 c,.int .i64 (k:Int)] w (quc lo p sc (S.set i (S[i].put c k)) w):=by
 have H:=hid h;have hs:=h.slab hi;have c0:=hs.cls;have ck:=hs.taken k hk;have c9:=hs.n;have f0:=hs.fr (i*10);have fk:=hs.fr (i*10+1+k);have f9:=hs.fr (i*10+9);have hlt:=hs.lt;have hk8:(k:Int)<8:=by omega
 have hne1:¬i*10=i*10+1+k:=by omega
 have hne2:¬i*10+1+k=i*10+9:=by omega
 have hkt:k<S[i].taken.length:=by rw[S[i].ht];exact hk
 have h1:=h.rows.setPart qan.enc_len hi {S[i]with cls:=c} 0 [.int .i64 c] (by simp) (qan.cls_same _ c) (qeu rfl);have h2:=h1.setPart qan.enc_len (i:=i) (by rw[List.length_set];exact hi) {S[i]with cls:=c,taken:=S[i].taken.set k true,ht:=by rw[List.length_set];exact S[i].ht} (1+k) [.bool true] (by simp;omega) (λj hj=>by rw[List.getElem_set_self];exact qan.taken_same {S[i]with cls:=c} k true j hj) (qeu (by rw[qan.e_taken _ hk];simp));have h3:=h2.setPart qan.enc_len (i:=i) (by rw[List.length_set,List.length_set];exact hi) (S[i].put c k) 9 [.int .i64 (wrap64 (S[i].n+1))] (by simp) (λj hj=>by rw[List.getElem_set_self];exact qan.n_same {S[i]with cls:=c,taken:=S[i].taken.set k true,ht:=by rw[List.length_set];exact S[i].ht} (wrap64 (S[i].n+1)) j hj) (qeu (qan.e_n _));rw[List.set_set,List.set_set,Nat.zero_add,Nat.add_zero,<-Nat.add_assoc]at h3;have HR:=hid (show Own qan.enc 223 10 (((w.setCell ⟨sc,i*10,none⟩ (.int .i64 c)).setCell ⟨sc,i*10+1+k,none⟩ (.bool true)).setCell ⟨sc,i*10+9,none⟩ (.int .i64 (wrap64 (S[i].n+1)))) lo (some ⟨sc,0,none⟩) S.length (S.set i (S[i].put c k))from h3);clear h hs h1 h2 h3;generalize S[i].put c k=y at *;generalize S[i].taken[k]=tk at *;generalize S[i].n=sn at *;generalize S[i].cls=scl at *;go_enter func324,ntmps324;go_wp2_with fail;have hlo:=H.out.lo;have hb3:∀b,b≠sc->((((w.setCell ⟨sc,i*10,none⟩ (.int .i64 c)).setCell ⟨sc,i*10+1+k,none⟩ (.bool true)).setCell ⟨sc,i*10+9,none⟩ (.int .i64 (wrap64 (sn+1)))).heap[b]?)=w.heap[b]? :=λb hb =>
  (Below.heap_setCell _ _ _ _ hb).trans ((Below.heap_setCell _ _ _ _ hb).trans (Below.heap_setCell _ _ _ _ hb))
 refine bodyPost_ret (v:=.tuple #[]) (by simp[results,results324]) rfl ⟨rfl,⟨by rw[hb3 p hlo.2.2,List.length_set];exact H.out.box,by rw[List.length_set];exact HR.out,hlo,by rw[List.length_set];exact H.out.len⟩,(((Below.refl _ _).setCell hlo.2.1 _).setCell hlo.2.1 _).setCell hlo.2.1 _,hb3⟩
end
section
open Go.RowKit Go.MapKept
open Go.ChangeMaps (setBlock)
def qd0(L:List qa3)(key:ByteArray):Option qa3:=L.find? λx=>decide (x.key=key)
structure MpL(es:Array MapEntry)(clock:Nat)(L:List qa3):Prop where
 st:Stamped es clock
 len:es.size=L.length
 row:∀j (h:j<L.length),∃e,es[j]? =some e/\e.key=.string L[j].key/\e.val=L[j].val
section
variable {es:Array MapEntry}{clock r:Nat}{L:List qa3}{w:World}{key:ByteArray}
theorem MpL.nil:MpL #[] 0 []:=⟨stamped_empty 0,rfl,λj h=>absurd h (by simp)⟩
theorem MpL.isKey(h:MpL es clock L):∀e∈es.toList,IsKey .string e.key:=by
 intro e he;obtain⟨j,hj,rfl⟩:=List.getElem_of_mem he;have hl:j<L.length:=by rw[<-h.len];simpa using hj
 obtain⟨e',h1,h2,_⟩:=h.row j hl;have:es.toList[j]=e':=by
  have:=Array.getElem?_eq_some_iff.1 h1;simpa using this.2
 rw[this,h2];trivial
theorem MpL.keys(h:MpL es clock L):es.toList.map (·.key)=L.map λx=>Value.string x.key:=by
 apply List.ext_getElem?;intro j;rw[List.getElem?_map,List.getElem?_map,Array.getElem?_toList];by_cases hj:j<L.length
 · obtain⟨e,h1,h2,_⟩:=h.row j hj
   rw[h1,List.getElem?_eq_getElem hj];simp[h2]
 · rw[List.getElem?_eq_none (by omega),Array.getElem?_eq_none (by rw[h.len];omega)]
   rfl
theorem MpL.nodup(h:MpL es clock L):(L.map (·.key)).Nodup:=by
 have h3:=h.st.2.2;rw[h.keys,List.Nodup,List.pairwise_map]at h3;rw[List.Nodup,List.pairwise_map];exact h3.imp λhab he=>hab (by rw[he])
theorem MpL.uniq(h:MpL es clock L){i j:Nat}(hi:i<L.length)(hj:j<L.length)(he:L[i].key=L[j].key):i=j:=by
 have hn:=List.pairwise_iff_getElem.1 h.nodup;rcases Nat.lt_trichotomy i j with hlt|rfl|hlt
 · exact(hn i j (by simpa using hi) (by simpa using hj) hlt (by simp only[List.getElem_map];exact he)).elim
 · rfl
 · exact(hn j i (by simpa using hj) (by simpa using hi) hlt (by simp only[List.getElem_map];exact he.symm)).elim
theorem MpL.miss(h:MpL es clock L)(h2:∀e∈es.toList,e.key≠ .string key):qd0 L key=none:=by
 refine List.find?_eq_none.2 λx hx=>?_
 obtain⟨j,hj,rfl⟩:=List.getElem_of_mem hx;obtain⟨e,h1,h3,_⟩:=h.row j hj;have:=h2 e (by have:=Array.mem_of_getElem? h1;simpa using this);intro hk;exact this (by rw[h3];simp at hk;rw[hk])
theorem MpL.hit(h:MpL es clock L){j:Nat}{e:MapEntry}(h2:es.toList[j]? =some e)(h3:e.key=.string key):∃hj:j<L.length,L[j].key=key/\e.val=L[j].val/\qd0 L key=some L[j]:=by
 have hj:j<L.length:=by
  have:=(List.getElem?_eq_some_iff.1 h2).1;rw[<-h.len];simpa using this
 obtain⟨e',h4,h5,h6⟩:=h.row j hj;have:e=e':=by rw[Array.getElem?_toList]at h2;exact Option.some.inj (h2.symm.trans h4)
 subst this;have hk:L[j].key=key:=by rw[h3]at h5;injection h5 with h5;exact h5.symm
 refine⟨hj,hk,h6,?_⟩;refine List.find?_eq_some_iff_getElem.2 ⟨by simpa using hk,j,hj,rfl,λi hi=>?_⟩;simp only[Bool.not_eq_eq_eq_not,Bool.not_true,decide_eq_false_iff_not];intro he;have:=h.uniq (by omega) hj (he.trans hk.symm);omega
def MapL(w:World)(r:Nat)(L:List qa3):Prop:=∃es clock,w.heap[r]? =some (.map es clock)/\MpL es clock L
theorem MapL.lt(h:MapL w r L):r<w.heap.size:=by
 obtain⟨es,clock,h1,_⟩:=h;exact(Array.getElem?_eq_some_iff.1 h1).1
theorem MapL.same{w':World}(h:MapL w r L)(hb:w'.heap[r]? =w.heap[r]?):MapL w' r L:=by
 obtain⟨es,clock,h1,h2⟩:=h;exact⟨es,clock,hb.trans h1,h2⟩
theorem MapL.nodup(h:MapL w r L):(L.map (·.key)).Nodup:=h.choose_spec.choose_spec.2.nodup
theorem qk6(h:MapL w r L)(key:ByteArray):(Instr.lookup 195 (.map (some r)) (.string key) true).run prog w=.ok (.tuple #[((qd0 L key).getD qak).val,.bool (qd0 L key).isSome]) w:=by
 obtain⟨es,clock,hb,hm⟩:=h;have ht:prog.underlying 195=some (.map 9 85):=underlying195;have hs:prog.underlying 9=some .string:=underlying9;rcases findNow_spec (d:=.string) (k:=.string key) trivial es.toList 0 hm.isKey with⟨h1,h2⟩|⟨j,e,h1,h2,h3⟩
 · rw[hm.miss h2]
   simp[Instr.lookup,run_underlying ht,MapKept.run_getObj_map hb,run_checkKey hs (k:=.string key) trivial,run_findKey hs h1,Result.andThen];rfl
 · obtain⟨hj,hk,hv,hl⟩:=hm.hit h2 h3
   rw[hl];simp[Instr.lookup,run_underlying ht,MapKept.run_getObj_map hb,run_checkKey hs (k:=.string key) trivial,run_findKey hs h1,hv,Result.andThen]
theorem qw6(h:MapL w r L)(key:ByteArray):(Instr.lookup 195 (.map (some r)) (.string key) false).run prog w=.ok ((qd0 L key).getD qak).val w:=by
 obtain⟨es,clock,hb,hm⟩:=h;have ht:prog.underlying 195=some (.map 9 85):=underlying195;have hs:prog.underlying 9=some .string:=underlying9;rcases findNow_spec (d:=.string) (k:=.string key) trivial es.toList 0 hm.isKey with⟨h1,h2⟩|⟨j,e,h1,h2,h3⟩
 · rw[hm.miss h2]
   simp[Instr.lookup,run_underlying ht,MapKept.run_getObj_map hb,run_checkKey hs (k:=.string key) trivial,run_findKey hs h1,Result.andThen];rfl
 · obtain⟨hj,hk,hv,hl⟩:=hm.hit h2 h3
   rw[hl];simp[Instr.lookup,run_underlying ht,MapKept.run_getObj_map hb,run_checkKey hs (k:=.string key) trivial,run_findKey hs h1,hv,Result.andThen]
def setM(L:List qa3)(x:qa3):List qa3:=match L.findIdx? λy=>decide (y.key=x.key)with|some j=>L.set j x|none=>L++[x]
def delM(L:List qa3)(key:ByteArray):List qa3:=match L.findIdx? λy=>decide (y.key=key)with|some j=>L.eraseIdx j|none=>L
theorem MpL.idx(h:MpL es clock L){j:Nat}(hj:j<L.length)(hk:L[j].key=key):L.findIdx? (λy=>decide (y.key=key))=some j:=by
 rw[List.findIdx?_eq_some_iff_getElem];refine⟨hj,by simpa using hk,λi hi=>?_⟩;simp only[Bool.not_eq_true,decide_eq_false_iff_not];intro he;have:=h.uniq (by omega) hj (he.trans hk.symm);omega
theorem qp4(h:qd0 L key=none):L.findIdx? (λy=>decide (y.key=key))=none:=by
 rw[List.findIdx?_eq_none_iff];intro x hx;have:=List.find?_eq_none.1 h x hx;simpa using this
theorem qe8{w:World}{r:Nat}{o o':Obj}(hb:w.heap[r]? =some o):w.grownBy (setBlock w r o') (some r):=
 ⟨rfl,rfl,rfl,by simp[setBlock],λi _ hne=>(MapKept.heap_set hb).2 i λh=>hne (by rw[h])⟩
theorem qA8(h:MapL w r L)(x:qa3):∃w':World,(Instr.mapUpdate 195 (.map (some r)) (.string x.key) x.val).run prog w=.ok () w'/\MapL w' r (setM L x)/\w.grownBy w' (some r)/\w'.heap.size=w.heap.size:=by
 obtain⟨es,clock,hb,hm⟩:=h;have ht:prog.underlying 195=some (.map 9 85):=underlying195;have hs:prog.underlying 9=some .string:=underlying9;rcases findNow_spec (d:=.string) (k:=.string x.key) trivial es.toList 0 hm.isKey with⟨h1,h2⟩|⟨j,e,h1,h2,h3⟩
 · refine⟨setBlock w r (.map (es.push {key:=.string x.key,val:=x.val,born:=clock}) (clock+1)),?_,⟨_,_,(heap_set hb).1,?_⟩,qe8 hb,by simp[setBlock]⟩
   · simp[Instr.mapUpdate,run_underlying ht,MapKept.run_getObj_map hb,run_checkKey hs (k:=.string x.key) trivial,run_findKey hs h1,MapKept.run_setObj_map _ hb,Result.andThen,setBlock]
   · have hn:=hm.miss h2
     rw[setM,qp4 hn];refine⟨stamped_push hm.st h2,by simp[hm.len],λi hi=>?_⟩;simp only[List.length_append,List.length_cons,List.length_nil]at hi;rcases(by omega:i<L.length\/i=L.length)with hl|rfl
     · obtain⟨e',q1,q2,q3⟩:=hm.row i hl
       refine⟨e',?_,?_,?_⟩
       · rw[Array.getElem?_push,if_neg (by rw[hm.len];omega)];exact q1
       · rw[List.getElem_append_left hl];exact q2
       · rw[List.getElem_append_left hl];exact q3
     · refine⟨_,by rw[<-hm.len];exact Array.getElem?_push_size,?_,?_⟩
       · simp
       · simp
 · obtain⟨hj,hk,hv,hl⟩:=hm.hit h2 h3
   have hje:es[j]? =some e:=by simpa using h2
   refine⟨setBlock w r (.map (es.modify j λe=> {e with key:=.string x.key,val:=x.val}) clock),?_,⟨_,_,(heap_set hb).1,?_⟩,qe8 hb,by simp[setBlock]⟩
   · simp[Instr.mapUpdate,run_underlying ht,MapKept.run_getObj_map hb,run_checkKey hs (k:=.string x.key) trivial,run_findKey hs h1,hje,h3,run_keyThatStays (d:=.string) (k:=.string x.key) trivial,MapKept.run_setObj_map _ hb,Result.andThen,setBlock]
   · rw[setM,hm.idx hj hk]
     refine⟨stamped_modify hm.st _ _ (λ_ _=>rfl) (λe' _ he'=>by rw[hje]at he';cases he';exact h3.symm),by simp[hm.len],λi hi=>?_⟩;simp only[List.length_set]at hi;obtain⟨e',q1,q2,q3⟩:=hm.row i hi;by_cases hij:j=i
     · subst hij
       refine⟨{e with key:=.string x.key,val:=x.val},?_,?_,?_⟩
       · rw[Array.getElem?_modify,if_pos rfl,hje];rfl
       · simp
       · simp
     · refine⟨e',?_,?_,?_⟩
       · rw[Array.getElem?_modify,if_neg hij];exact q1
       · rw[List.getElem_set_ne hij];exact q2
       · rw[List.getElem_set_ne hij];exact q3
theorem qB1(h:MapL w r L)(key:ByteArray)(ty:TypeId):∃w':World,(Builtin.delete_ #[195,9] ty #[.map (some r),.string key]).run prog w=.ok (.tuple #[]) w'/\MapL w' r (delM L key)/\w.grownBy w' (some r)/\w'.heap.size=w.heap.size:=by
 obtain⟨es,clock,hb,hm⟩:=h;have ht:prog.underlying 195=some (.map 9 85):=underlying195;have hs:prog.underlying 9=some .string:=underlying9;rcases findNow_spec (d:=.string) (k:=.string key) trivial es.toList 0 hm.isKey with⟨h1,h2⟩|⟨j,e,h1,h2,h3⟩
 · refine⟨setBlock w r (.map es clock),?_,⟨_,_,(heap_set hb).1,?_⟩,qe8 hb,by simp[setBlock]⟩
   · simp[Builtin.delete_,run_underlying ht,MapKept.run_getObj_map hb,run_checkKey hs (k:=.string key) trivial,run_findKey hs h1,MapKept.run_setObj_map _ hb,Result.andThen,setBlock]
   · rw[delM,qp4 (hm.miss h2)]
     exact hm
 · obtain⟨hj,hk,hv,hl⟩:=hm.hit h2 h3
   have hjs:j<es.size:=by rw[hm.len];exact hj
   refine⟨setBlock w r (.map (es.eraseIdxIfInBounds j) clock),?_,⟨_,_,(heap_set hb).1,?_⟩,qe8 hb,by simp[setBlock]⟩
   · simp[Builtin.delete_,run_underlying ht,MapKept.run_getObj_map hb,run_checkKey hs (k:=.string key) trivial,run_findKey hs h1,MapKept.run_setObj_map _ hb,Result.andThen,setBlock]
   · rw[delM,hm.idx hj hk]
     have he:es.eraseIdxIfInBounds j=es.eraseIdx j hjs:=by simp[Array.eraseIdxIfInBounds,hjs]
     refine⟨stamped_erase hm.st _,by rw[he];simp[hm.len,List.length_eraseIdx,hj],λi hi=>?_⟩;rw[List.length_eraseIdx,if_pos hj]at hi;rw[he,<-Array.getElem?_toList,Array.toList_eraseIdx,List.getElem?_eraseIdx];by_cases hij:i<j
     · obtain⟨e',q1,q2,q3⟩:=hm.row i (by omega)
       refine⟨e',by rw[if_pos hij,Array.getElem?_toList];exact q1,?_,?_⟩
       · rw[List.getElem_eraseIdx,dif_pos hij];exact q2
       · rw[List.getElem_eraseIdx,dif_pos hij];exact q3
     · obtain⟨e',q1,q2,q3⟩:=hm.row (i+1) (by omega)
       refine⟨e',by rw[if_neg hij,Array.getElem?_toList];exact q1,?_,?_⟩
       · rw[List.getElem_eraseIdx,dif_neg hij];exact q2
       · rw[List.getElem_eraseIdx,dif_neg hij];exact q3
end
end
section
open Go.RowKit
theorem qnx(w:World){b off dLen dCap:Nat}{m:ByteArray}{t:TypeId}{l:List UInt8}(row:RowB w b t l)(hle:m.size<=dLen)(hfit:off+dLen<=l.length):∃w',(∀ty,(Builtin.copy_ #[86,9] ty #[.slice (some ⟨b,off,none⟩) dLen dCap,.string m]).run prog w=.ok (.int .i64 (m.size:Int)) w')/\RowB w' b t (qbj l off (bl m))/\(∀k,k≠b->w'.heap[k]? =w.heap[k]?)/\∀lo w0,Below lo w0 w->lo<=b->Below lo w0 w':=by
 have hr:=λty=>Lib.run_copy_row_string (P:=prog) w 86 9 ty 5 b off dLen dCap m (byC l).toArray t underlying86 (by
  have:=qcu
  cases hq:prog.info? 5 with
  |none=>rw[hq]at this;cases this
  |some i=>rw[hq]at this;simp at this;simp[this]) row hle (by rw[List.size_toArray,qad];omega)
 have e:((byC l).toArray.toList.take off++Lib.byteCells m.data.toList++(byC l).toArray.toList.drop (off+m.size)).toArray=(byC (qbj l off (bl m))).toArray:=by
  have hm:Lib.byteCells m.data.toList=byC (bl m):=rfl;rw[hm];simp[byC,qbj,qfc]
 rw[e]at hr;exact⟨_,hr,setRow_heap w b _ _ t (0,0) row,λk hk=>setRow_other w b k _ hk,λlo w0 hb hlo=>below_setRow hb hlo _⟩
theorem qnd(n:Nat)(hn:n<=1000000)(W:World):∃w',(Instr.makeSlice 86 (.int .i64 (n:Int)) (.int .i64 (n:Int))).run prog W=.ok (.slice (some ⟨W.heap.size,0,none⟩) n n) w'/\RowB w' W.heap.size 5 (zeros n)/\Below W.heap.size W w'/\w'.heap.size=W.heap.size+1:=
 ⟨_,mkB n hn W,(qa2 _ _ _).trans (if_pos rfl),(Below.refl _ _).alloc (Nat.le_refl _) _,by simp⟩
theorem qeg{b:BlkC}(h:mayB b=true):¬qa9 b.cls=0/\b.key.size<=16/\b.val.size<=400/\b.key.size+b.val.size<=capI b.cls/\b.id<18446744073709551616/\b.ver<18446744073709551616/\b.ep<18446744073709551616:=by
 have need:∀n:Nat,∀c:Int,qbh (n:Int)=c->¬qa9 c=0->n<=capI c:=λn c hc hs=>by
  unfold qbh at hc;rw[if_neg (by omega)]at hc;have h4:=qm5 c;rcases h4 with rfl|rfl|rfl|rfl|h4
  · repeat' split at hc
    all_goals first|omega|(simp[capI];omega)
  · repeat' split at hc
    all_goals first|omega|(simp[capI];omega)
  · repeat' split at hc
    all_goals first|omega|(simp[capI];omega)
  · repeat' split at hc
    all_goals first|omega|(simp[capI];omega)
  · exact absurd (qe1 h4) hs
 have num:∀v,qau v=true->v<18446744073709551616:=λv hv=>by
  simp[qau]at hv;omega
 have tz:∀s:ByteArray,s.toList=[]->s.size=0:=λs hs=>by
  rw[Lib.toList_data]at hs;show s.data.size=0
  rw[<-Array.length_toList,hs];rfl
 unfold mayB at h;split at h
 · cases h
 · rename_i hs
   refine⟨hs,?_⟩;split at h
   · simp only[decide_eq_true_eq]at h
     obtain⟨h1,h2,h3,h4,h5⟩:=h;have:=tz _ h4;have:=tz _ h5;exact⟨by omega,by omega,by omega,by omega,by omega,by omega⟩
   · split at h
     · split at h
       · cases h
       · split at h
         · cases h
         · rename_i q1 q2
           simp only[Bool.and_eq_true]at h;have:=need (b.key.size+b.val.size) b.cls (by
            have:¬(qbh ((b.key.size:Int)+b.val.size)≠b.cls):=λh0=>q2 (.inr h0)
            rw[Int.natCast_add]
            exact Classical.not_not.1 this) hs
           exact⟨by omega,by omega,this,num _ h.1.1,num _ h.1.2,num _ h.2⟩
     · split at h
       · split at h
         · cases h
         · rename_i q1
           simp only[Bool.and_eq_true]at h;have:=need b.val.size b.cls (by
            have:¬(qbh (b.val.size:Int)≠b.cls):=λh0=>q1 (.inr (.inr h0))
            exact Classical.not_not.1 this) hs
           exact⟨by omega,by omega,by omega,num _ h.1.1,num _ h.1.2,num _ h.2⟩
       · split at h
         · split at h
           · cases h
           · rename_i q1
             simp only[Bool.and_eq_true]at h;exact⟨by omega,by omega,by omega,num _ h.1.1,num _ h.1.2,num _ h.2⟩
         · cases h
end
section
open Go.RowKit Go.MapKept
open Go.ChangeMaps (setBlock)
def qld(L:List qa3)(I:List Nat):List qa3:=I.map λi=>L.getD i qak
def qkr(w:World)(r it:Nat)(L:List qa3)(I:List Nat):Prop:=∃es clock since seen c0,w.heap[r]? =some (.map es clock)/\MpL es clock L/\w.heap[it]? =some (.mapIter (some r) since seen c0)/\(∀x∈es.toList,x.born<since)/\since<=c0/\since<=clock /\
 I.Nodup/\(∀i∈I,i<L.length)/\∀i (h:i<es.size),seen.contains es[i].born=true↔i∈I
theorem qvq{L:List qa3}{I:List Nat}(hn:I.Nodup)(hl:∀i∈I,i<L.length)(ha:∀i,i<L.length->i∈I):(qld L I).Perm L:=by
 have hp:I.Perm (List.range L.length):=(List.perm_ext_iff_of_nodup hn List.nodup_range).2 λi=>⟨λh=>List.mem_range.2 (hl i h),λh=>ha i (List.mem_range.1 h)⟩
 have h2:qld L (List.range L.length)=L:=by
  apply List.ext_getElem?;intro i;unfold qld;rw[List.getElem?_map];by_cases hi:i<L.length
  · rw[List.getElem?_range hi,List.getElem?_eq_getElem hi]
    simp[List.getD_eq_getElem?_getD,List.getElem?_eq_getElem hi]
  · rw[List.getElem?_eq_none (by simp;omega),List.getElem?_eq_none (by omega)]
    rfl
 exact(hp.map _).trans (by rw[show(List.range L.length).map (λi=>L.getD i qak)=L from h2])
section
variable {ops:Array Oper}{rest:List Oper}{o:Oper}{a:Act}{w:World}{Q:Exit->Act->World->Prop}{r it:Nat}{L:List qa3}{I:List Nat}
theorem qkr.same{w':World}(h:qkr w r it L I)(h1:w'.heap[r]? =w.heap[r]?)(h2:w'.heap[it]? =w.heap[it]?):qkr w' r it L I:=by
 obtain⟨es,clock,since,seen,c0,q1,q2,q3,q4⟩:=h;exact⟨es,clock,since,seen,c0,h1.trans q1,q2,h2.trans q3,q4⟩
theorem qkr.lt(h:qkr w r it L I):r<w.heap.size/\it<w.heap.size:=by
 obtain⟨es,clock,since,seen,c0,q1,q2,q3,q4⟩:=h;exact⟨(Array.getElem?_eq_some_iff.1 q1).1,(Array.getElem?_eq_some_iff.1 q3).1⟩
theorem qi8(hg:o.guard=none)(m:Operand)(hop:o.op=Op.range 195 m)(hm:a.eval m=.map (some r))(h:MapL w r L)
 (hK:∀w',qkr w' r w.heap.size L []->w.grownBy w' none->w'.heap.size=w.heap.size+1->wpList prog ops Q rest (a.put o.dst (.pointer (some ⟨w.heap.size,0,none⟩))) w'):wpList prog ops Q (o::rest) a w:=by
 refine wpList_plain hg λK' hK'=>?_
 have hlt:=h.lt;obtain⟨es,clock,hb,hc⟩:=h;have ht:prog.underlying 195=some (.map 9 85):=underlying195;unfold Oper.wp;simp[execOp,hop,hm,run_range_map w 195 9 85 r es clock ht hb,Result.andThen];refine hK' _ _ (hK _ ⟨es,clock,clock,#[],clock,((MapKept.heap_alloc w _).2 r hlt).trans hb,hc,(MapKept.heap_alloc w _).1,hc.st.1,Nat.le_refl _,Nat.le_refl _,List.nodup_nil,by simp,λi h=>by simp⟩ (World.grownBy_alloc w _ none) (by simp))
theorem qji(hg:o.guard=none)(i:Operand)(hop:o.op=Op.next i false)(hi:a.eval i=.pointer (some ⟨it,0,none⟩))(h:qkr w r it L I)
 (hDone:(qld L I).Perm L->wpList prog ops Q rest (a.put o.dst (.tuple #[.bool false])) w)
 (hMore:∀(j:Nat) (x:qa3) (w':World),x=L.getD j qak->qkr w' r it L (I++[j])->w'.rangeLeft r it<w.rangeLeft r it->w.grownBy w' (some it)->w'.heap.size=w.heap.size ->
  (Instr.entry (.pointer (some ⟨it,0,none⟩))).run prog w'=.ok (.tuple #[.string x.key,x.val]) w'->wpList prog ops Q rest (a.put o.dst (.tuple #[.bool true,.string x.key,x.val])) w'):
 wpList prog ops Q (o::rest) a w:=by
 refine wpList_plain hg λK' hK'=>?_
 obtain⟨es,clock,since,seen,c0,hb,hc,hr,hold,hsc,hsk,hn,hl,hz⟩:=h;have hne:it≠r:=λe=>by rw[e,hb]at hr;cases hr
 unfold Oper.wp;rcases run_next_at (P:=prog) w o.type it r since c0 seen es clock hr hb hold hsc with⟨h0,hrun⟩|⟨e,he,w1,hal,hrun⟩
 · simp[execOp,hop,hi,hrun,Result.andThen]
   refine hK' _ _ (hDone (qvq hn hl λi hi=>?_));have his:i<es.size:=by rw[hc.len];exact hi
   exact(hz i his).1 (all_seen es seen h0 _ (by simp))
 · obtain⟨hem,hes⟩:=mem_left he
   obtain⟨j,hj,hje⟩:=List.getElem_of_mem hem;have hjs:j<es.size:=by simpa using hj
   have hjl:j<L.length:=by rw[<-hc.len];exact hjs
   have hje':es[j]=e:=by simpa using hje
   obtain⟨e',h1,hk,hv⟩:=hc.row j hjl;have hee:e'=e:=by rw[Array.getElem?_eq_getElem hjs,hje']at h1;exact(Option.some.inj h1).symm
   subst hee;have hjI:j∉I:=λhm=>by
    have:=(hz j hjs).2 hm;rw[hje',hes]at this;cases this
   have hr1:w1.heap[it]? =some (.mapIter (some r) since seen c0):=by rcases hal with rfl|rfl <;> exact hr
   have hb1:w1.heap[r]? =some (.map es clock):=by rcases hal with rfl|rfl <;> exact hb
   have hset:=MapKept.heap_set (o':=.mapIter (some r) since (seen.push e'.born) clock) hr1;have hb':(setBlock w1 it (.mapIter (some r) since (seen.push e'.born) clock)).heap[r]? =some (.map es clock):=(hset.2 r (λe1=>hne e1.symm)).trans hb1;have hsh:=left_shrinks es seen e' he;have hs1:(setBlock w1 it (.mapIter (some r) since (seen.push e'.born) clock)).heap[it]? =some (.mapIter (some r) since (seen.push e'.born) clock):=hset.1;have hx:L.getD j qak=L[j]:=by simp[List.getD_eq_getElem?_getD,List.getElem?_eq_getElem hjl]
   rw[hk,hv]at hrun;simp[execOp,hop,hi,hrun,Result.andThen];rw[<-hx];refine hK' _ _ (hMore j (L.getD j qak) _ rfl ⟨es,clock,since,seen.push e'.born,clock,hb',hc,hset.1,hold,hsk,hsk,?_,?_,λi his=>?_⟩ ?_ ?_ ?_ ?_)
   · exact List.nodup_append.2 ⟨hn,by simp,λa ha b hb=>by simp at hb;subst hb;exact λe=>hjI (e ▸ ha)⟩
   · intro i hi
     rcases List.mem_append.1 hi with h|h
     · exact hl i h
     · simp at h;subst h;exact hjl
   · rw[contains_push,List.mem_append]
     by_cases hij:i=j
     · subst hij
       simp[hje']
     · have hbn:(es[i].born==e'.born)=false:=by
        rw[beq_eq_false_iff_ne];intro hb2;have:=born_inj hc.st.2.1 (x:=es[i]) (e:=e') (by simp) hem hb2;have h4:=List.pairwise_iff_getElem.1 hc.st.2.1;rcases Nat.lt_or_gt_of_ne hij with hlt|hlt
        · exact h4 i j (by simpa using his) (by simpa using hjs) hlt (by simp;rw[hb2,hje'])
        · exact h4 j i (by simpa using hjs) (by simpa using his) hlt (by simp;rw[hb2,hje'])
       rw[hbn,Bool.or_false,hz i his];simp[hij]
   · simp only[World.rangeLeft,hb,hr,hb',hs1]
     exact hsh
   · rcases hal with rfl|rfl <;> exact⟨rfl,rfl,rfl,by simp[setBlock],λi _ hi=>hset.2 i (λe1=>hi (by rw[e1]))⟩
   · rcases hal with rfl|rfl <;> simp[setBlock]
   · have:=run_entry_at (P:=prog) _ it r since seen es clock e' hset.1 hb' hem hc.st.2.1
     rw[hk,hv,<-hx]at this;exact this
end
end
end Go.Proofs.YtecikkjbnkhhkaaGreat
