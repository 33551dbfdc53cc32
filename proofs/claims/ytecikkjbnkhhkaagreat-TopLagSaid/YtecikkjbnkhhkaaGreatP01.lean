/- A part of the walk. -/
import Derived.Test.YtecikkjbnkhhkaaGreatRows
import Derived.Deep.AppendLies
import Derived.Deep.Draws
import Derived.WalkKit
import Derived.Deep.MidRow
import Derived.Laws.CopyOwn
import Derived.Lib.AppendZerosOnto
import Derived.Lib.Overlaps
import Derived.Lib.SliceRun
namespace Go.Proofs.YtecikkjbnkhhkaaGreat
open _root_.Go.Proofs.Tryz
set_option maxRecDepth 100000
section
open Go.RowKit
theorem qs1{k:IntKind}{a b:Int}(h:a=b):Ending.returned (.int k a)=.returned (.int k b):=by rw[h]
theorem qc9{a b:Bool}(h:a=b):Ending.returned (.bool a)=.returned (.bool b):=by rw[h]
theorem qyq{a b:Value}(h:a=b):Ending.returned a=.returned b:=by rw[h]
theorem hid{p:Prop}(h:p):Hid p:=h
theorem qa1{B:Nat}{a w:World}(h:Below B a w)(n:Nat):Below B a (w.drewN n):=⟨h.os,h.tape,h.output,h.size,h.block⟩
def Arr{α:Type}(enc:α->List Value)(k:Nat)(w:World)(B:Nat)(A:Option Addr)(l:List α):Prop:=
 l=[]\/∃b off,A=some ⟨b,off,none⟩/\b<B/\∀i (h:i<l.length) j u,(enc l[i])[j]? =some u->w.cell? ⟨b,off+i*k+j,none⟩=some u
theorem Arr.nil{α:Type}{enc:α->List Value}{k:Nat}{w:World}{B:Nat}{A:Option Addr}:Arr enc k w B A []:=.inl rfl
theorem Arr.keep{α:Type}{enc:α->List Value}{k:Nat}{w w':World}{B:Nat}{A:Option Addr}{l:List α}(h:Arr enc k w B A l)
 (hk:∀p:Addr,p.block<B->w'.cell? p=w.cell? p):Arr enc k w' B A l:=by
 rcases h with h|⟨b,off,hA,hB,hc⟩
 · exact .inl h
 · exact .inr ⟨b,off,hA,hB,λi hi j u hu=>(hk ⟨b,_,none⟩ hB).trans (hc i hi j u hu)⟩
theorem Arr.below{α:Type}{enc:α->List Value}{k:Nat}{w w':World}{B:Nat}{A:Option Addr}{l:List α}(h:Arr enc k w B A l)(hb:Below B w w'):Arr enc k w' B A l:=
 h.keep λ_ hp=>hb.cell hp
theorem Arr.more{α:Type}{enc:α->List Value}{k:Nat}{w:World}{B B':Nat}{A:Option Addr}{l:List α}(h:Arr enc k w B A l)(hB:B<=B'):Arr enc k w B' A l:=by
 rcases h with h|⟨b,off,hA,hb,hc⟩
 · exact .inl h
 · exact .inr ⟨b,off,hA,by omega,hc⟩
theorem Arr.take{α:Type}{enc:α->List Value}{k:Nat}{w:World}{B:Nat}{A:Option Addr}{l:List α}(h:Arr enc k w B A l)(n:Nat):Arr enc k w B A (l.take n):=by
 rcases h with h|⟨b,off,hA,hb,hc⟩
 · exact .inl (by simp[h])
 · refine .inr ⟨b,off,hA,hb,λi hi j u hu=>?_⟩
   have hi':i<l.length:=by simp at hi;omega
   rw[List.getElem_take]at hu;exact hc i hi' j u hu
theorem Arr.drop{α:Type}{enc:α->List Value}{k:Nat}{w:World}{B:Nat}{A:Option Addr}{l:List α}(h:Arr enc k w B A l){m c:Nat}(hm:m<=l.length)(hc:l.length<=c):
 Arr enc k w B (if c=m then A else A.map (·.add (m*k))) (l.drop m):=by
 rcases h with h|⟨b,off,rfl,hb,hcell⟩
 · exact .inl (by simp[h])
 · by_cases hlt:m=l.length
   · exact .inl (by simp[hlt])
   · rw[if_neg (by omega)]
     refine .inr ⟨b,off+m*k,?_,hb,λi hi j u hu=>?_⟩
     · by_cases h0:m*k=0 <;> simp[Addr.add,h0]
     · simp only[List.getElem_drop,List.length_drop]at hu hi
       have:=hcell (m+i) (by omega) j u hu;rw[Nat.add_mul,<-Nat.add_assoc off]at this;exact this
theorem qgq{w wr:World}{cs:Array Value}{t:TypeId}(h:Below (w.heap.size+1) (w.alloc (.cells cs t)) wr)(j:Nat):wr.cell? ⟨w.heap.size,j,none⟩=cs[j]? :=by
 rw[h.cell (p:=⟨w.heap.size,j,none⟩) (by simp)];exact World.cell?_alloc_at cs t _ j rfl
theorem qf3{w wr:World}{o:Obj}{B:Nat}(h:Below B (w.alloc o) wr):w.heap.size<wr.heap.size:=by
 have:=h.size;simp at this;omega
theorem qhr{α:Type}{l:List α}{i:Nat}(h:i<l.length)(d:α):l.getD i d=l[i]:=by simp[List.getD,h]
theorem qb0{α:Type}{enc:α->List Value}{k:Nat}(hk:∀x,(enc x).length=k):∀(l:List α) (i:Nat) (h:i<l.length) (j:Nat),j<k->(l.flatMap enc)[i*k+j]? =(enc l[i])[j]?
 |x::l,0,_,j,hj=>by
  simp only[List.flatMap_cons,Nat.zero_mul,Nat.zero_add,List.getElem_cons_zero]
  rw[List.getElem?_append_left (by rw[hk];exact hj)]
 |x::l,i+1,h,j,hj=>by
  simp only[List.flatMap_cons,List.getElem_cons_succ]
  have e:(i+1)*k+j=(enc x).length+(i*k+j):=by rw[hk,Nat.succ_mul];omega
  rw[e,List.getElem?_append_right (by omega),Nat.add_sub_cancel_left]
  exact qb0 hk l i (by simpa using h) j hj
theorem qao{α:Type}{enc:α->List Value}{k:Nat}(hk:∀x,(enc x).length=k)(l:List α):(l.flatMap enc).length=l.length*k:=by
 induction l with
 |nil=>simp
 |cons x l ih=>simp only[List.flatMap_cons,List.length_append,hk,ih,List.length_cons,Nat.succ_mul];omega
theorem Arr.of_cells{α:Type}{enc:α->List Value}{k:Nat}(hk:∀x,(enc x).length=k){w:World}{B b off:Nat}{l:List α}(hb:b<B)
 (h:∀j u,(l.flatMap enc)[j]? =some u->w.cell? ⟨b,off+j,none⟩=some u):Arr enc k w B (some ⟨b,off,none⟩) l:=by
 refine .inr ⟨b,off,rfl,hb,λi hi j u hu=>?_⟩;have hj:j<k:=by rw[<-hk l[i]];exact(List.getElem?_eq_some_iff.1 hu).1
 have:=h (i*k+j) u (by rw[qb0 hk l i hi j hj];exact hu);rwa [<-Nat.add_assoc]at this
theorem Arr.lit{α:Type}{enc:α->List Value}{k:Nat}(hk:∀x,(enc x).length=k)(w:World)(t:TypeId)(l:List α)(cs:Array Value)(hcs:cs.toList=l.flatMap enc):
 Arr enc k (w.alloc (.cells cs t)) (w.heap.size+1) (some ⟨w.heap.size,0,none⟩) l:=
 Arr.of_cells hk (by omega) λj u hu=>by
  rw[Nat.zero_add,World.cell?_alloc_at cs t _ j rfl,<-Array.getElem?_toList,hcs]
  exact hu
open Go.RowKit
theorem qax{b:Nat}{e:TypeId}:∀(vs:List Value) (o:Nat) (w:World) (cur:Array Value),w.heap[b]? =some (.cells cur e (0,0))->o+vs.length<=cur.size ->
 ∃cur',(w.setCells b o vs).heap[b]? =some (.cells cur' e (0,0))/\cur'.size=cur.size/\(∀j,j<o->cur'[j]? =cur[j]?)/\(∀j,o+vs.length<=j->cur'[j]? =cur[j]?)/\(∀j (u:Value),vs[j]? =some u->cur'[o+j]? =some u)
 | [],o,w,cur,h,_=>⟨cur,h,rfl,λ_ _=>rfl,λ_ _=>rfl,λj u h=>by simp at h⟩
 |v::r,o,w,cur,h,hl=>by
  simp only[List.length_cons]at hl
  obtain⟨cur',h1,h2,h3,h4,h5⟩:=qax r (o+1) (w.setCell ⟨b,o,none⟩ v) (cur.setIfInBounds o v) (heap_setCell_same w b o cur e v h) (by simp;omega)
  refine⟨cur',h1,by simpa using h2,λj hj=>?_,λj hj=>?_,λj u hu=>?_⟩
  · rw[h3 j (by omega),Array.getElem?_setIfInBounds_ne (by omega)]
  · simp only[List.length_cons]at hj
    rw[h4 j (by omega),Array.getElem?_setIfInBounds_ne (by omega)]
  · match j,hu with
    |0,hu =>
     simp at hu
     subst hu
     rw[Nat.add_zero,h3 o (by omega),Array.getElem?_setIfInBounds_self_of_lt (by omega)]
    |j+1,hu =>
     have:=h5 j u (by simpa using hu)
     rwa [show o+1+j=o+(j+1)by omega]at this
theorem qaa(b:Nat):∀(vs:List Value) (o:Nat) (w:World) (k:Nat),k≠b->(w.setCells b o vs).heap[k]? =w.heap[k]?
 | [],_,_,_,_=>rfl
 |v::r,o,w,k,h=>by
  show((w.setCell ⟨b,o,none⟩ v).setCells b (o+1) r).heap[k]? =_
  rw[qaa b r (o+1) _ k h]
  exact Below.heap_setCell w ⟨b,o,none⟩ v k h
theorem qam(b:Nat):∀(vs:List Value) (o:Nat) (w:World),(w.setCells b o vs).os=w.os/\(w.setCells b o vs).tape=w.tape/\(w.setCells b o vs).output=w.output/\(w.setCells b o vs).heap.size=w.heap.size
 | [],_,_=>⟨rfl,rfl,rfl,rfl⟩
 |v::r,o,w=>by
  obtain⟨h1,h2,h3,h4⟩:=qam b r (o+1) (w.setCell ⟨b,o,none⟩ v)
  exact⟨h1,h2,h3,h4.trans (by simp[World.setCell])⟩
theorem qb4(b:Nat)(vs:List Value)(o:Nat)(w:World):w.grownBy (w.setCells b o vs) (some b):=by
 obtain⟨h1,h2,h3,h4⟩:=qam b vs o w;exact⟨h1,h2,h3,by omega,λk _ hk=>qaa b vs o w k (λe=>hk (by rw[e]))⟩
def Own{α:Type}(enc:α->List Value)(e:TypeId)(k:Nat)(w:World)(lo:Nat)(A:Option Addr)(c:Nat)(l:List α):Prop:=
 l.length<=c/\c<=maxLen/\(c=0\/∃b off cur,A=some ⟨b,off,none⟩/\lo<=b/\w.heap[b]? =some (.cells cur e (0,0))/\off+c*k<=cur.size/\∀j (u:Value),(l.flatMap enc)[j]? =some u->cur[off+j]? =some u)
section
variable {α:Type}{enc:α->List Value}{e:TypeId}{k:Nat}{w w':World}{lo:Nat}{A:Option Addr}{c:Nat}{l:List α}
theorem Own.none_:Own enc e k w lo none 0 []:=⟨Nat.le_refl _,by simp,.inl rfl⟩
theorem Own.zero:Own enc e k w lo A 0 []:=⟨Nat.le_refl _,by simp,.inl rfl⟩
theorem Own.len(h:Own enc e k w lo A c l):l.length<=c:=h.1
theorem Own.max(h:Own enc e k w lo A c l):c<=9223372036854775807:=by have:=h.2.1;simpa[maxLen]using this
theorem Own.lt(h:Own enc e k w lo A c l):c=0\/∃b off,A=some ⟨b,off,none⟩/\lo<=b/\b<w.heap.size:=by
 rcases h.2.2 with h0|⟨b,off,cur,hA,hlo,hh,_⟩
 · exact .inl h0
 · exact .inr ⟨b,off,hA,hlo,by
    rcases Nat.lt_or_ge b w.heap.size with hb|hb
    · exact hb
    · rw[Array.getElem?_eq_none hb]at hh;cases hh⟩
theorem Own.keep(h:Own enc e k w lo A c l)(hk:∀b off,A=some ⟨b,off,none⟩->lo<=b->b<w.heap.size->w'.heap[b]? =w.heap[b]?):Own enc e k w' lo A c l:=by
 refine⟨h.1,h.2.1,?_⟩;have hl:=h.lt;rcases h.2.2 with h0|⟨b,off,cur,hA,hlo,hh,hs,hc⟩
 · exact .inl h0
 · refine .inr ⟨b,off,cur,hA,hlo,?_,hs,hc⟩
   rcases Nat.lt_or_ge b w.heap.size with hb|hb
   · rw[hk b off hA hlo hb];exact hh
   · rw[Array.getElem?_eq_none hb]at hh;cases hh
theorem Own.below(h:Own enc e k w lo A c l)(hb:Below w.heap.size w w'):Own enc e k w' lo A c l:=h.keep λb _ _ _ hlt=>hb.block b hlt
theorem Own.alloc(h:Own enc e k w lo A c l)(o:Obj):Own enc e k (w.alloc o) lo A c l:=h.keep λb _ _ _ hlt=>Below.heap_alloc w o b hlt
theorem Own.drewN(h:Own enc e k w lo A c l)(n:Nat):Own enc e k (w.drewN n) lo A c l:=h
theorem Own.drew(h:Own enc e k w lo A c l):Own enc e k w.drew lo A c l:=h
theorem Own.lower(h:Own enc e k w lo A c l){lo':Nat}(hl:lo'<=lo):Own enc e k w lo' A c l:=by
 refine⟨h.1,h.2.1,?_⟩;rcases h.2.2 with h0|⟨b,off,cur,hA,hlo,r⟩
 · exact .inl h0
 · exact .inr ⟨b,off,cur,hA,by omega,r⟩
theorem Own.grown(h:Own enc e k w lo A c l){row:Option Nat}(hg:w.grownBy w' row)(hne:∀b off,A=some ⟨b,off,none⟩->row≠some b):Own enc e k w' lo A c l:=
 h.keep λb off hA _ hlt=>hg.block b hlt λe=>hne b off hA e.symm
theorem Own.arr(hk:∀x,(enc x).length=k)(h:Own enc e k w lo A c l):Arr enc k w w.heap.size A l:=by
 rcases h.2.2 with h0|⟨b,off,cur,hA,hlo,hh,hs,hc⟩
 · exact .inl (List.eq_nil_of_length_eq_zero (by have:=h.1;omega))
 · subst hA
   refine Arr.of_cells hk ?_ λj u hu=>?_
   · rcases Nat.lt_or_ge b w.heap.size with hb|hb
     · exact hb
     · rw[Array.getElem?_eq_none hb]at hh;cases hh
   · rw[cell_of_row w b _ _ _ _ hh]
     exact hc j u hu
theorem Own.of_row(_hk:∀x,(enc x).length=k){n:Nat}{v:Value}(h:w.ownsRow lo e k v n (l.flatMap enc))(hn:l.length=n):∃A c,v=.slice A l.length c/\Own enc e k w lo A c l:=by
 rcases h.2 with⟨rfl,h0⟩|⟨g,cap,cur,rfl,hlo,hh,hnc,hm,hs,ht⟩
 · have hl:l=[]:=List.eq_nil_of_length_eq_zero (by omega)
   subst hl;exact⟨none,0,rfl,Own.none_⟩
 · refine⟨some ⟨g,0,none⟩,cap,by rw[hn],by omega,hm,.inr ⟨g,0,cur,rfl,hlo,hh,by omega,λj u hu=>?_⟩⟩
   rw[Nat.zero_add,<-Array.getElem?_toList];have hj:j<n*k:=by rw[<-h.1];exact(List.getElem?_eq_some_iff.1 hu).1
   rw[<-ht,List.getElem?_take_of_lt hj]at hu;exact hu
theorem Own.setCell(h:Own enc e k w lo A c l){p:Addr}(hp:p.block<lo)(u:Value):Own enc e k (w.setCell p u) lo A c l:=
 h.keep λb _ _ hb _=>Below.heap_setCell w p u b (by omega)
theorem Own.apart{α':Type}{enc':α'->List Value}{e' k' lo':Nat}{A':Option Addr}{c':Nat}{l':List α'}(h:Own enc e k w lo A c l)(h':Own enc' e' k' w' lo' A' c' l')(hw:w.heap.size<=lo'):
 ∀b o b' o',A=some ⟨b,o,none⟩->A'=some ⟨b',o',none⟩->c=0\/c'=0\/b≠b':=by
 intro b o b' o' hA hA';rcases h.lt with h0|⟨b1,o1,hA1,_,hlt⟩
 · exact .inl h0
 · rcases h'.lt with h0|⟨b2,o2,hA2,hge,_⟩
   · exact .inr (.inl h0)
   · rw[hA]at hA1;rw[hA']at hA2
     cases hA1;cases hA2
     exact .inr (.inr (by omega))
theorem Own.frozen(h:Own enc e k w lo A c l){b off:Nat}(hA:A=some ⟨b,off,none⟩)(hc:0<c)(j:Nat):w.frozen? ⟨b,j,none⟩=false:=by
 rcases h.2.2 with h0|⟨b',off',cur,hA',hlo,hh,_⟩
 · omega
 · rw[hA]at hA'
   cases hA'
   exact frozen_of_row w b j cur e hh
end
def qa8(A:Option Addr)(c:Nat):Option Nat:=if c=0 then none else A.map (·.block)
theorem qeq{α:Type}{enc:α->List Value}{e:TypeId}{k:Nat}{P:Program}(w:World)(t ty:TypeId)(i:TypeInfo)(z:Value)(bytes:Nat)(ht:P.underlying t=some (.slice e))(hi:P.info? e=some i)(hz:i.zero=some z)
 (hsize:i.size=k) (hby:i.bytes=bytes) (hzs:z.cells.size=k) (hk0:0<k) (hk:∀x,(enc x).length=k) (h1:∀x,∀u∈enc x,u.oneCell'=true)
 {lo:Nat} {A:Option Addr} {c:Nat} {l:List α} (own:Own enc e k w lo A c l) {B:Nat} {A2:Option Addr} {m:List α} (arr:Arr enc k w B A2 m) (c2:Nat)
 (h63:l.length+m.length<=maxLen) (hbytes:(l.length+m.length)*bytes<=140737488355328) (hlo:lo<=w.heap.size):
 ∃A' c' w',(Builtin.append_ #[t,t] ty #[.slice A l.length c,.slice A2 m.length c2]).run P w=.ok (.slice A' (l.length+m.length) c') w'/\Own enc e k w' lo A' c' (l++m)/\w.grownBy w' (qa8 A c)/\(A'=A/\c'=c\/∃g,A'=some ⟨g,0,none⟩/\w.heap.size<=g):=by
 by_cases hm0:m=[]
 · subst hm0
   refine⟨A,c,w,?_,by simpa using own,World.grownBy.refl _ _,.inl ⟨rfl,rfl⟩⟩;have hle:=own.len;cases A2 with
   |none =>
    cases A with
    |none=>simp[Builtin.append_,run_underlying ht,sizeOf,typeInfo,hi,Builtin.lenOf,Builtin.firstCells,hle]
    |some a=>simp[Builtin.append_,run_underlying ht,sizeOf,typeInfo,hi,Builtin.lenOf,Builtin.firstCells,hle,storeCells]
   |some a2 =>
    cases A with
    |none=>simp[Builtin.append_,run_underlying ht,sizeOf,typeInfo,hi,Builtin.lenOf,Builtin.firstCells,hle,loadCells,loadCellsFrom]
    |some a=>simp[Builtin.append_,run_underlying ht,sizeOf,typeInfo,hi,Builtin.lenOf,Builtin.firstCells,hle,storeCells,loadCells,loadCellsFrom]
 rcases arr with rfl|⟨b2,off2,rfl,hB2,hc2⟩
 · exact absurd rfl hm0
 have hml:0<m.length:=by
  cases m with
  |nil=>exact absurd rfl hm0
  |cons _ _=>simp
 have hnl:(m.flatMap enc).length=m.length*k:=qao hk m;have hnews:∀j u,(m.flatMap enc)[j]? =some u->w.cell? ((⟨b2,off2,none⟩:Addr).add j)=some u:=by
  intro j u hu;have hj:j<m.length*k:=by rw[<-hnl];exact(List.getElem?_eq_some_iff.1 hu).1
  have hq:j/k<m.length:=Nat.div_lt_of_lt_mul (by rw[Nat.mul_comm];exact hj);have hr:j%k<k:=Nat.mod_lt _ hk0;have hjj:j/k*k+j%k=j:=Nat.div_add_mod' j k;rw[Addr.add_lit,<-hjj,<-Nat.add_assoc];refine hc2 (j/k) hq (j%k) u ?_;rw[<-qb0 hk m (j/k) hq (j%k) hr,hjj];exact hu
 have hone:∀u∈m.flatMap enc,u.oneCell'=true:=by
  intro u hu;obtain⟨x,_,hx⟩:=List.mem_flatMap.1 hu;exact h1 x u hx
 have hll:(l.flatMap enc).length=l.length*k:=qao hk l;by_cases hroom:l.length+m.length<=c
 · rcases own.2.2 with h0|⟨b,off,cur,rfl,hlob,hh,hs,hc⟩
   · omega
   · subst hsize
     have hfit:off+l.length*i.size+(m.flatMap enc).length<=cur.size:=by
      rw[hnl];have:(l.length+m.length)*i.size<=c*i.size:=Nat.mul_le_mul_right _ hroom;rw[Nat.add_mul]at this;omega
     have hrun:=run_append_room_cells (P:=P) w t ty e i ht hi b off l.length c ⟨b2,off2,none⟩ m.length c2 (m.flatMap enc) hnl hnews hone hroom
      (λj hj=>by rw[cell_of_row w b _ _ _ _ hh,Array.getElem?_eq_getElem (by omega)];rfl) (λj hj=>frozen_of_row w b _ _ _ hh)
     obtain⟨cur',g1,g2,g3,g4,g5⟩:=qax (m.flatMap enc) (off+l.length*i.size) w cur hh hfit;refine⟨_,c,_,hrun,⟨by simp;omega,own.2.1,.inr ⟨b,off,cur',rfl,hlob,g1,by omega,λj u hu=>?_⟩⟩,by rw[qa8,if_neg (by omega)];exact qb4 b _ _ w,.inl ⟨rfl,rfl⟩⟩;rw[List.flatMap_append]at hu;by_cases hj:j<l.length*i.size
     · rw[List.getElem?_append_left (by omega)]at hu
       rw[g3 _ (by omega)];exact hc j u hu
     · rw[List.getElem?_append_right (by omega),hll]at hu
       have:=g5 _ u hu;rwa [show off+l.length*i.size+(j-l.length*i.size)=off+j by omega]at this
 · have key:∃v' w',(Builtin.append_ #[t,t] ty #[.slice A l.length c,.slice (some ⟨b2,off2,none⟩) m.length c2]).run P w=.ok v' w'/\w'.ownsRow w.heap.size e k v' (l.length+m.length) (l.flatMap enc++m.flatMap enc)/\w.grownBy w' none:=by
    cases A with
    |none =>
     have hc0:c=0:=by
      rcases own.2.2 with h0|⟨b,off,cur,hA,_⟩
      · exact h0
      · cases hA
     subst hc0;have hl0:l=[]:=List.eq_nil_of_length_eq_zero (by have:=own.1;omega);subst hl0;obtain⟨v',w',r1,r2,r3,_⟩:=run_append_own (P:=P) w w.heap.size t ty e i z k bytes ht hi hz hsize hby hzs hk0 (.slice none 0 0) 0 [] (World.ownsRow_nil w _ e k) ⟨b2,off2,none⟩ m.length c2 (m.flatMap enc) hnl hnews hone (by simpa using h63) (by simpa using hbytes) (Nat.le_refl _);exact⟨v',w',r1,by simpa using r2,r3⟩
    |some a =>
     refine run_append_arg_grows (P:=P) w t ty e i z k bytes ht hi hz hsize hby hzs hk0 a l.length c (l.flatMap enc) hll (λj u hu=>?_) ⟨b2,off2,none⟩ m.length c2 (m.flatMap enc) hnl hnews (by omega) h63 hbytes;rcases own.2.2 with h0|⟨b,off,cur,hA,hlob,hh,hs,hc⟩
     · have:l=[]:=List.eq_nil_of_length_eq_zero (by have:=own.1;omega)
       subst this;simp at hu
     · cases hA
       rw[Addr.add_lit,cell_of_row w b _ _ _ _ hh];exact hc j u hu
   obtain⟨v',w',r1,r2,r3⟩:=key;obtain⟨g,cap,hv,hge,hlt⟩:=r2.form (by omega);obtain⟨A',c',hv',hown⟩:=Own.of_row (l:=l++m) hk (by rw[List.flatMap_append];exact r2) (by simp);rw[List.length_append]at hv';refine⟨A',c',w',by rw[r1,hv'],hown.lower hlo,?_,?_⟩
   · exact⟨r3.os,r3.tape,r3.output,r3.size,λq hq _=>r3.block q hq (by simp)⟩
   · rw[hv']at hv
     injection hv with hA';exact .inr ⟨g,hA',hge⟩
theorem qar{α:Type}{enc:α->List Value}{e:TypeId}{k:Nat}{P:Program}(w:World){ops:Array Oper}{rest:List Oper}{o:Oper}{a:Act}{Q:Exit->Act->World->Prop}(hgd:o.guard=none)(s x:Operand)(t:TypeId)
 (ho:o.op=.call {callee:=.builtin .append,args:=#[s,x],argTypes:=#[t,t]})
 (i:TypeInfo) (z:Value) (bytes:Nat) (ht:P.underlying t=some (.slice e)) (hi:P.info? e=some i) (hz:i.zero=some z)
 (hsize:i.size=k) (hby:i.bytes=bytes) (hzs:z.cells.size=k) (hk0:0<k) (hk:∀x,(enc x).length=k) (h1:∀x,∀u∈enc x,u.oneCell'=true)
 {lo:Nat} {A:Option Addr} {c:Nat} {l:List α} (hs:a.eval s=.slice A l.length c) (own:Own enc e k w lo A c l) {B:Nat} {A2:Option Addr} {m:List α} (c2:Nat) (hx:a.eval x=.slice A2 m.length c2) (arr:Arr enc k w B A2 m)
 (h63:l.length+m.length<=maxLen) (hbytes:(l.length+m.length)*bytes<=140737488355328) (hlo:lo<=w.heap.size)
 (h:∀A' c' w',Own enc e k w' lo A' c' (l++m)->w.grownBy w' (qa8 A c)->(A'=A/\c'=c\/∃g,A'=some ⟨g,0,none⟩/\w.heap.size<=g)->wpList P ops Q rest (a.put o.dst (.slice A' (l.length+m.length) c')) w'):wpList P ops Q (o::rest) a w:=by
 obtain⟨A',c',w',hrun,h2,h3,h4⟩:=qeq (P:=P) w t o.type i z bytes ht hi hz hsize hby hzs hk0 hk h1 own arr c2 h63 hbytes hlo;refine wpList_plain hgd λK hK=>?_
 unfold Oper.wp execOp;simp only[ho,resolve,invoke,builtin,Sem.run_bind,Sem.run_pure,Result.andThen_ok,List.map_toArray,List.map_cons,List.map_nil,hs,hx,hrun];exact hK _ _ (h A' c' w' h2 h3 h4)
end
section
open Go.RowKit
theorem qcn{P:Program}(w:World)(dT sT ty elem:TypeId)(i:TypeInfo)(b o dLen dCap:Nat)(a:Addr)(sLen sCap:Nat)(cs:List Value)
 (hu:P.underlying dT=some (.slice elem)) (hi:P.info? elem=some i) (hn:cs.length=Nat.min sLen dLen*i.size)
 (hsrc:∀j v,cs[j]? =some v->w.cell? (a.add j)=some v) (hc:∀j,j<cs.length->(w.cell? ⟨b,o+j,none⟩).isSome=true) (hf:∀j,j<cs.length->w.frozen? ⟨b,o+j,none⟩=false) (h1:∀v∈cs,v.oneCell'=true):
 (Builtin.copy_ #[dT,sT] ty #[.slice (some ⟨b,o,none⟩) dLen dCap,.slice (some a) sLen sCap]).run P w=.ok (goInt (Nat.min sLen dLen)) (w.setCells b o cs):=by
 have hl:=run_firstCells_some (P:=P) w i.size (Nat.min sLen dLen) a sLen sCap cs hn hsrc;have hst:=run_storeCells_cells (P:=P) b o cs 0 w (by simpa using hc) (by simpa using hf) h1;simp[Builtin.copy_,run_underlying hu,Builtin.lenOf,sizeOf,typeInfo,hi,hl,hst]
theorem qf8{α:Type}{enc:α->List Value}{k:Nat}(hk:∀x,(enc x).length=k):∀(l:List α) (i:Nat),(l.take i).flatMap enc=(l.flatMap enc).take (i*k)
 | [],i=>by simp
 |x::l,0=>by simp
 |x::l,i+1=>by
  simp only[List.take_succ_cons,List.flatMap_cons,qf8 hk l i]
  have h1:(enc x).take ((i+1)*k)=enc x:=List.take_of_length_le (by rw[hk,Nat.succ_mul];omega)
  have h2:(i+1)*k-k=i*k:=by rw[Nat.succ_mul];omega
  rw[List.take_append,hk,h1,h2]
theorem qlx{α:Type}{enc:α->List Value}{k:Nat}(hk:∀x,(enc x).length=k):∀(l:List α) (i:Nat),(l.drop i).flatMap enc=(l.flatMap enc).drop (i*k)
 | [],i=>by simp
 |x::l,0=>by simp
 |x::l,i+1=>by
  simp only[List.drop_succ_cons,List.flatMap_cons,qlx hk l i]
  have h1:(enc x).drop ((i+1)*k)=[]:=List.drop_of_length_le (by rw[hk,Nat.succ_mul];omega)
  have h2:(i+1)*k-k=i*k:=by rw[Nat.succ_mul];omega
  rw[List.drop_append,hk,h1,h2,List.nil_append]
def ins{α:Type}(l:List α)(i:Nat)(x:α):List α:=l.take i++x::l.drop i
theorem qfx{α:Type}(l:List α)(i:Nat)(x:α)(h:i<=l.length):(ins l i x).length=l.length+1:=by simp[ins];omega
theorem qwl{α:Type}{enc:α->List Value}{k:Nat}(hk:∀x,(enc x).length=k)(l:List α)(i:Nat)(x:α):
 (ins l i x).flatMap enc=(l.flatMap enc).take (i*k)++(enc x++(l.flatMap enc).drop (i*k)):=by
 rw[ins,List.flatMap_append,List.flatMap_cons,qf8 hk,qlx hk]
theorem qln{α:Type}{enc:α->List Value}{k:Nat}(hk:∀x,(enc x).length=k){l:List α}{i:Nat}{x:α}(hi:i<=l.length){cur:Array Value}{off:Nat}
 (h1:∀j u,((l.flatMap enc).take (i*k))[j]? =some u->cur[off+j]? =some u) (h2:∀j (u:Value),(enc x)[j]? =some u->cur[off+(i*k+j)]? =some u)
 (h3:∀j u,((l.flatMap enc).drop (i*k))[j]? =some u->cur[off+((i+1)*k+j)]? =some u):∀j (u:Value),((ins l i x).flatMap enc)[j]? =some u->cur[off+j]? =some u:=by
 intro j u hu;rw[qwl hk]at hu;have hlt:((l.flatMap enc).take (i*k)).length=i*k:=by
  rw[List.length_take,qao hk];have:i*k<=l.length*k:=Nat.mul_le_mul_right _ hi;omega
 by_cases c1:j<i*k
 · rw[List.getElem?_append_left (by omega)]at hu
   exact h1 j u hu
 · rw[List.getElem?_append_right (by omega),hlt]at hu
   by_cases c2:j-i*k<k
   · rw[List.getElem?_append_left (by rw[hk];exact c2)]at hu
     have:=h2 _ u hu;rwa [show i*k+(j-i*k)=j by omega]at this
   · rw[List.getElem?_append_right (by rw[hk];omega),hk]at hu
     have:=h3 _ u hu;rwa [show(i+1)*k+(j-i*k-k)=j by rw[Nat.succ_mul];omega]at this
end
section
open Go.RowKit
theorem qom(x y:Int)(k:IntKind)(w:World):(Op.intArith .add k x y).run prog w=.ok (.int k (k.wrap (x+y))) w:=rfl
theorem qgx(b o:Nat)(c d:Int)(w:World)(h:w.cell? ⟨b,o,none⟩=some (.int .i64 c))(hf:w.frozen? ⟨b,o,none⟩=false)(_hb:b<w.heap.size):Calls prog 116 #[.pointer (some ⟨b,o,none⟩),.int .i64 d] w λe w'=>∃v:Int,e=.returned (.int .i64 v)/\w'=w.setCell ⟨b,o,none⟩ (.int .i64 v):=by
 have hadd:=run_call_add (P:=prog) func151 (by kernel_rfl) (by kernel_rfl) (by kernel_rfl) .i64 (by kernel_rfl) h hf (qom c d .i64 w);go_enter func116,ntmps116;go_wp2_with fail;go_ret;exact⟨_,rfl,rfl⟩
theorem qpb(b o:Nat)(c d:Int)(w:World)(h:w.cell? ⟨b,o,none⟩=some (.int .u64 c))(hf:w.frozen? ⟨b,o,none⟩=false)(_hb:b<w.heap.size):Calls prog 265 #[.pointer (some ⟨b,o,none⟩),.int .u64 d] w λe w'=>e=.returned (.int .u64 (IntKind.u64.wrap (c+d)))/\w'=w.setCell ⟨b,o,none⟩ (.int .u64 (IntKind.u64.wrap (c+d))):=by
 have hadd:=run_call_add (P:=prog) func315 (by kernel_rfl) (by kernel_rfl) (by kernel_rfl) .u64 (by kernel_rfl) h hf (qom c d .u64 w);go_enter func265,ntmps265;go_wp2_with fail;go_ret;exact⟨rfl,rfl⟩
theorem qe7(b o:Nat)(c:Int)(w:World)(h:w.cell? ⟨b,o,none⟩=some (.int .u64 c))(_hb:b<w.heap.size):Calls prog 64 #[.pointer (some ⟨b,o,none⟩)] w λe w'=>e=.returned (.int .u64 c)/\w'=w:=by
 have hl:=run_call_load (P:=prog) func100 (by kernel_rfl) (by kernel_rfl) (by kernel_rfl) .u64 (by kernel_rfl) h;go_enter func64,ntmps64;go_wp2_with fail;go_ret;exact⟨rfl,rfl⟩
def qB9(w:World)(a:Addr)(u:Value)(e:Ending)(w':World):Prop:=e=.returned (.tuple #[])/\w'=w.setCell a u
theorem qfn(b o:Nat)(c d:Int)(w:World)(h:w.cell? ⟨b,o,none⟩=some (.int .u64 c))(hf:w.frozen? ⟨b,o,none⟩=false)(_hb:b<w.heap.size):Calls prog 101 #[.pointer (some ⟨b,o,none⟩),.int .u64 d] w (qB9 w ⟨b,o,none⟩ (.int .u64 d)):=by
 have hs:=run_call_store (P:=prog) func133 (by kernel_rfl) (by kernel_rfl) (by kernel_rfl) (by kernel_rfl) (k:=.u64) (y:=d) h hf;go_enter func101,ntmps101;go_wp2_with fail;refine bodyPost_ret (v:=.tuple #[]) (by simp[results,results101]) rfl ⟨rfl,rfl⟩
theorem qx2(b o:Nat)(c d:Int)(w:World)(h:w.cell? ⟨b,o,none⟩=some (.int .u64 c))(hf:w.frozen? ⟨b,o,none⟩=false)(_hb:b<w.heap.size):Calls prog 206 #[.pointer (some ⟨b,o,none⟩),.int .u64 c,.int .u64 d] w λe w'=>e=.returned (.bool true)/\w'=w.setCell ⟨b,o,none⟩ (.int .u64 d):=by
 have hs:=run_call_cas_hit (P:=prog) func263 (by kernel_rfl) (by kernel_rfl) (by kernel_rfl) .u64 (by kernel_rfl) (y:=d) h hf;go_enter func206,ntmps206;go_wp2_with fail;go_ret;exact⟨rfl,rfl⟩
theorem qtq(b o:Nat)(c x d:Int)(hne:¬c=x)(w:World)(h:w.cell? ⟨b,o,none⟩=some (.int .u64 c))(hf:w.frozen? ⟨b,o,none⟩=false)(_hb:b<w.heap.size):Calls prog 206 #[.pointer (some ⟨b,o,none⟩),.int .u64 x,.int .u64 d] w λe w'=>e=.returned (.bool false)/\w'=w:=by
 have hs:=run_call_cas_miss (P:=prog) func263 (by kernel_rfl) (by kernel_rfl) (by kernel_rfl) .u64 (by kernel_rfl) (o:=x) (y:=d) h hf hne;go_enter func206,ntmps206;go_wp2_with fail;go_ret;exact⟨rfl,rfl⟩
end
end Go.Proofs.YtecikkjbnkhhkaaGreat
