/- A part of the walk. -/
import Derived.Test.YtecikkjbnkhhkaaGreatP02
import Derived.Shelf.SlIter.Nil
import Derived.Shelf.SlSortCmp.WholeK
import Derived.Shelf.SortM.Plain
import Derived.Shelf.SortM.SortNone
namespace Go.Proofs.YtecikkjbnkhhkaaGreat
open _root_.Go.Proofs.Tryz
set_option maxHeartbeats 2000000
section
open Go.RowKit
def qa9(c:Int):Nat:=if c=0 then 1 else if c=1 then 2 else if c=2 then 4 else if c=3 then 8 else 0
def capI(c:Int):Nat:=if c=0 then 28 else if c=1 then 91 else if c=2 then 217 else if c=3 then 469 else 0
theorem qm5(c:Int):c=0\/c=1\/c=2\/c=3\/(c<0\/3<c):=by omega
theorem qe1{c:Int}(h:c<0\/3<c):qa9 c=0:=by
 unfold qa9;rw[if_neg (by omega),if_neg (by omega),if_neg (by omega),if_neg (by omega)]
theorem qx3{c:Int}(h:c<0\/3<c):capI c=0:=by
 unfold capI;rw[if_neg (by omega),if_neg (by omega),if_neg (by omega),if_neg (by omega)]
theorem qaw(c:Int)(w:World):Calls prog 129 #[.int .i64 c] w λe w'=>e=.returned (.int .i64 (qa9 c:Nat))/\w'=w:=by
 rcases qm5 c with rfl|rfl|rfl|rfl|h
 iterate 4
  · go_enter func129,ntmps129
    go_wp2_with fail;go_ret;exact⟨rfl,rfl⟩
 · rw[qe1 h]
   by_cases h0:c<0
   · go_enter func129,ntmps129
     go_wp2_with fail;go_ret;exact⟨rfl,rfl⟩
   · have h1:3<c:=by omega
     go_enter func129,ntmps129;go_wp2_with fail;go_ret;exact⟨rfl,rfl⟩
theorem qo0(c:Int)(w:World):Calls prog 174 #[.int .i64 c] w λe w'=>e=.returned (.int .i64 (capI c:Nat))/\w'=w:=by
 rcases qm5 c with rfl|rfl|rfl|rfl|h
 iterate 4
  · go_enter func174,ntmps174
    go_wp2_with fail;refine(qaw _ w).mono ?_;rintro e w2⟨rfl,rfl⟩;simp only[show qa9 0=1 from rfl,show qa9 1=2 from rfl,show qa9 2=4 from rfl,show qa9 3=8 from rfl];go_wp2_with fail;go_ret;exact⟨rfl,rfl⟩
 · rw[qx3 h]
   have h0:=qe1 h;go_enter func174,ntmps174;go_wp2_with fail;refine(qaw _ w).mono ?_;rintro e w2⟨rfl,rfl⟩;rw[h0];go_wp2_with fail;go_ret;exact⟨rfl,rfl⟩
def qbh(n:Int):Int:=if n<0 then -1 else if n<=28 then 0 else if n<=91 then 1 else if n<=217 then 2 else if n<=469 then 3 else -1
theorem qyz{n:Int}{k:Nat}(hk:k<4)(hn:0<=n)(h:∀j:Nat,j<k->(capI j:Int)<n)(h1:n<=capI k):qbh n=k:=by
 have c0:capI (0:Nat)=28:=rfl;have c1:capI (1:Nat)=91:=rfl;have c2:capI (2:Nat)=217:=rfl;have c3:capI (3:Nat)=469:=rfl;unfold qbh;rcases(by omega:k=0\/k=1\/k=2\/k=3)with rfl|rfl|rfl|rfl
 · rw[if_neg (by omega),if_pos (by omega)];rfl
 · have:=h 0 (by omega)
   rw[if_neg (by omega),if_neg (by omega),if_pos (by omega)];rfl
 · have:=h 1 (by omega)
   rw[if_neg (by omega),if_neg (by omega),if_neg (by omega),if_pos (by omega)];rfl
 · have:=h 2 (by omega)
   rw[if_neg (by omega),if_neg (by omega),if_neg (by omega),if_neg (by omega),if_pos (by omega)];rfl
theorem qsb{n:Int}(h:∀j:Nat,j<4->(capI j:Int)<n):qbh n= -1:=by
 have c3:capI (3:Nat)=469:=rfl;have:=h 3 (by omega);unfold qbh;rw[if_neg (by omega),if_neg (by omega),if_neg (by omega),if_neg (by omega),if_neg (by omega)]
theorem qf5(n:Int)(w:World):Calls prog 226 #[.int .i64 n] w λe w'=>e=.returned (.int .i64 (qbh n))/\w'=w:=by
 by_cases h:n<0
 · have h1:qbh n= -1:=by unfold qbh;rw[if_pos h]
   rw[h1];go_enter func226,ntmps226;go_wp2_with fail;go_ret;exact⟨rfl,rfl⟩
 · go_enter func226,ntmps226
   go_wp2_with fail;go_loopw [3,6] (λ_ v6 wr=>∃k:Nat,k<=4/\v6=.int .i64 k/\wr=w/\∀j:Nat,j<k->(capI j:Int)<n) (λ_ v6 _=>4-(intOf v6).toNat)
   case atStart=>exact⟨0,by omega,rfl,rfl,λj hj=>absurd hj (by omega)⟩
   case round =>
    obtain⟨k,hk,rfl,rfl,hall⟩:=hrel;have HALL:=hid hall;clear hall;by_cases hlt:k<4
    · have hlti:(k:Int)<4:=by omega
      go_wp2_with fail;refine(qo0 _ _).mono ?_;rintro e w2⟨rfl,rfl⟩;by_cases hn:n<=capI k
      · have he:=hid (qyz hlt (by omega) HALL.out hn)
        go_wp2_with fail;go_ret;exact⟨by rw[he.out];rfl,rfl⟩
      · go_wp2_with fail
        exact⟨⟨k+1,by omega,by go_num,trivial,λj hj=>by
         rcases(by omega:j<k\/j=k)with h1|rfl
         · exact HALL.out j h1
         · omega⟩,by simp[intOf];omega⟩
    · obtain rfl:k=4:=by omega
      have he:=hid (qsb HALL.out);go_wp2_with fail;go_ret;exact⟨by rw[he.out];rfl,rfl⟩
def qha(k:Int):Int:=if k<0\/32<=k then -1 else 2+k*8
theorem qjs(k:Int)(w:World):Calls prog 337 #[.int .i64 k] w λe w'=>e=.returned (.int .i64 (qha k))/\w'=w:=by
 by_cases h0:k<0
 · have h1:qha k= -1:=by unfold qha;rw[if_pos (.inl h0)]
   rw[h1];go_enter func337,ntmps337;go_wp2_with fail;go_ret;exact⟨rfl,rfl⟩
 · by_cases h2:32<=k
   · have h1:qha k= -1:=by unfold qha;rw[if_pos (.inr h2)]
     rw[h1];go_enter func337,ntmps337;go_wp2_with fail;go_ret;exact⟨rfl,rfl⟩
   · have h1:qha k=2+k*8:=by unfold qha;rw[if_neg (by omega)]
     rw[h1];have i1:IntKind.i64.wrap (k*8)=k*8:=Go.IntWalk.i64_in _ (by omega);have i2:IntKind.i64.wrap (2+k*8)=2+k*8:=Go.IntWalk.i64_in _ (by omega);go_enter func337,ntmps337;go_wp2_with fail;go_ret;exact⟨rfl,rfl⟩
def qcc(l:Int):Int:=if l<2\/258<=l then -1 else(l-2)/8
theorem qfo(l:Int)(w:World):Calls prog 321 #[.int .i64 l] w λe w'=>e=.returned (.int .i64 (qcc l))/\w'=w:=by
 by_cases h0:l<2
 · have h1:qcc l= -1:=by unfold qcc;rw[if_pos (.inl h0)]
   rw[h1];go_enter func321,ntmps321;go_wp2_with fail;go_ret;exact⟨rfl,rfl⟩
 · by_cases h2:258<=l
   · have h1:qcc l= -1:=by unfold qcc;rw[if_pos (.inr h2)]
     rw[h1];go_enter func321,ntmps321;go_wp2_with fail;go_ret;exact⟨rfl,rfl⟩
   · have h1:qcc l=(l-2)/8:=by unfold qcc;rw[if_neg (by omega)]
     rw[h1];have i1:IntKind.i64.wrap (l-2)=l-2:=Go.IntWalk.i64_in _ (by omega);have i2:(l-2).tdiv 8=(l-2)/8:=Int.tdiv_eq_ediv_of_nonneg (by omega);go_enter func321,ntmps321;go_wp2_with fail;go_ret;exact⟨rfl,rfl⟩
end
section
open Go.RowKit
def numE(n:Nat):List Value:=[.int .i64 (n:Int)]
theorem qjz(n:Nat):(numE n).length=1:=rfl
theorem qvv(n:Nat):∀u∈numE n,u.oneCell'=true:=by intro u hu;simp[numE]at hu;subst hu;rfl
theorem qk9:(prog.info? 3).map (λi=>(i.zero,i.size,i.bytes))=some (some (.int .i64 0),1,8):=by kernel_rfl
theorem qzp{ops:Array Oper}{rest:List Oper}{o:Oper}{a:Act}{Q:Exit->Act->World->Prop}(w:World)(hgd:o.guard=none)(s x:Operand)
 (ho:o.op=.call {callee:=.builtin .append,args:=#[s,x],argTypes:=#[23,23]}) {lo:Nat} {A:Option Addr} {c:Nat} {l:List Nat} (hs:a.eval s=.slice A l.length c) (own:Own numE 3 1 w lo A c l)
 {B:Nat} {A2:Option Addr} {m:List Nat} (c2:Nat) (hx:a.eval x=.slice A2 m.length c2) (arr:Arr numE 1 w B A2 m) (hb:l.length+m.length<=1000000) (hlo:lo<=w.heap.size)
 (h:∀A' c' w',Own numE 3 1 w' lo A' c' (l++m)->w.grownBy w' (qa8 A c)->(A'=A/\c'=c\/∃g,A'=some ⟨g,0,none⟩/\w.heap.size<=g)->wpList prog ops Q rest (a.put o.dst (.slice A' (l.length+m.length) c')) w'):
 wpList prog ops Q (o::rest) a w:=by
 obtain⟨i0,hi,hz0,hz1,hz2⟩:=info_parts qk9;exact qar w hgd s x 23 ho i0 _ 8 underlying23 hi hz0 hz1 hz2 rfl (by decide) qjz qvv hs own c2 hx arr (by unfold maxLen;omega) (by omega) hlo h
theorem qr6{w:World}{vb:Nat}{x:Nat}(hv:w.heap[vb]? =some (.cells #[.int .i64 (x:Int)] 3 (0,0))):Arr numE 1 w w.heap.size (some ⟨vb,0,none⟩) [x]:=by
 refine Arr.of_cells qjz ?_ λj u hu=>?_
 · exact qa0 hv
 · rw[Nat.zero_add,cell_of_row w vb j _ _ _ hv]
   simpa[numE]using hu
theorem qck{α:Type}{enc:α->List Value}{e:TypeId}{k:Nat}{W W' w:World}{lo:Nat}{A:Option Addr}{c:Nat}{l:List α}(h:Own enc e k W lo A c l)(hg:W.grownBy W' (qa8 A c))(hb:Below lo w W)(hlo:lo<=W.heap.size):Below lo w W':=by
 refine hb.grown hg hlo (λq hq=>?_);unfold qa8 at hq;split at hq
 · cases hq
 · rcases h.lt with h0|⟨b,off,rfl,hl, -⟩
   · contradiction
   · cases hq
     exact hl
def qb1(k:Nat)(c:Int):List Nat:=if qa9 c=0\/32<=k then[]else(List.range (8/qa9 c)).map λi=>2+k*8+i*qa9 c
theorem qet(c:Int):qa9 c=0\/qa9 c=1\/qa9 c=2\/qa9 c=4\/qa9 c=8:=by
 rcases qm5 c with rfl|rfl|rfl|rfl|h
 · exact .inr (.inl rfl)
 · exact .inr (.inr (.inl rfl))
 · exact .inr (.inr (.inr (.inl rfl)))
 · exact .inr (.inr (.inr (.inr rfl)))
 · exact .inl (qe1 h)
def qum(l:List Nat)(w:World)(e:Ending)(w':World):Prop:=∃A c,e=.returned (.slice A l.length c)/\Own numE 3 1 w' w.heap.size A c l/\Below w.heap.size w w'
theorem qpw(k:Nat)(c:Int)(w:World)(hk:k<32):Calls prog 320 #[.int .i64 (k:Int),.int .i64 c] w (qum (qb1 k c) w):=by
 by_cases h0:qa9 c=0
 · have hs:qb1 k c=[]:=by unfold qb1;rw[if_pos (.inl h0)]
   rw[hs];go_enter func320,ntmps320;go_wp2_with fail;refine(qaw c w).mono ?_;rintro e w1⟨rfl,rfl⟩;rw[h0];go_wp2_with fail;refine(qjs k w1).mono ?_;rintro e w2⟨rfl,rfl⟩;go_wp2_with fail;go_ret;exact⟨none,0,rfl,Own.none_,Below.refl _ _⟩
 · obtain⟨n,hn,hn1,hn8,hdv⟩:∃n,n=qa9 c/\1<=n/\n<=8/\(8/n)*n=8:=by
    rcases qet c with h|h|h|h|h
    · exact absurd h h0
    all_goals exact⟨_,rfl,by omega,by omega,by rw[h]⟩
   have hs:qb1 k c=(List.range (8/n)).map λi=>2+k*8+i*n:=by unfold qb1;rw[if_neg (by omega),hn]
   have hsl:qha k=2+(k:Int)*8:=by unfold qha;rw[if_neg (by omega)]
   have HS:=hid hs;have HN:=hid hn;have HSL:=hid hsl;have HDV:=hid hdv;have h0n:¬n=0:=by omega
   have hne:((n:Int)==0)=false:=by rw[beq_eq_false_iff_ne];omega
   have hn0:¬(n:Int)=0:=by omega
   obtain⟨q,hq⟩:∃q,q=8/n:=⟨_,rfl⟩;rw[<-hq]at HS HDV;have hdb:q<=8:=by rw[hq];exact Nat.div_le_self _ _
   have hdi:(8:Int)/(n:Int)=(q:Int):=by rw[hq];rfl
   have HDI:=hid hdi;clear hq hdi;clear hs hn hsl hdv h0;go_enter func320,ntmps320;go_wp2_with fail;refine(qaw c w).mono ?_;rintro e w1⟨rfl,rfl⟩;rw[<-HN.out];go_wp2_with fail;refine(qjs k w1).mono ?_;rintro e w2⟨rfl,rfl⟩;rw[HSL.out];have hf0:¬2+(k:Int)*8<0:=by omega
   go_wp2_with fail;rw[HDI.out];clear hf0 hne hn0;have hq8:q*n=8:=HDV.out;go_loopw [7,8,21] (λv7 _ v21 wr=>∃(j:Nat) (A:Option Addr) (ca:Nat),j<=q/\v21=.int .i64 j/\v7=.slice A ((List.range j).map λi=>2+k*8+i*n).length ca/\Own numE 3 1 wr w2.heap.size A ca ((List.range j).map λi=>2+k*8+i*n)/\Below w2.heap.size w2 wr) (λ_ _ v21 _=>q-(intOf v21).toNat)
   case atStart=>exact⟨0,none,0,by omega,rfl,rfl,Own.none_,Below.refl _ _⟩
   case round =>
    obtain⟨j,A,ca,hj,rfl,rfl,hown,hb⟩:=hrel;have HO:=hid hown;have HB:=hid hb;by_cases hlt:j<q
    · have hlti:(j:Int)<(q:Int):=by omega
      have hjn:j*n<=8:=by rw[<-hq8];exact Nat.mul_le_mul_right _ (by omega)
      have i1:IntKind.i64.wrap ((j:Int)*(n:Int))=((j*n:Nat):Int):=by rw[<-Int.natCast_mul];exact Go.IntWalk.i64_in _ (by omega)
      have i2:IntKind.i64.wrap (2+(k:Int)*8+((j*n:Nat):Int))=((2+k*8+j*n:Nat):Int):=by rw[show 2+(k:Int)*8+((j*n:Nat):Int)=((2+k*8+j*n:Nat):Int)by omega];exact Go.IntWalk.i64_in _ (by omega)
      have hsz:=hb.size;clear hown hb;go_wp2_with(at_builtin;refine qzp (l:=(List.range j).map λi=>2+k*8+i*n) (m:=[2+k*8+j*n]) (A:=A) (c:=ca) (lo:=w2.heap.size) _ rfl (.tmp 24) (.tmp 30) (by first|rfl|simp[Act.eval]) (by first|rfl|simp[Act.eval]) (HO.out.alloc _) 1 (by first|rfl|simp[Act.eval]) (qr6 (vb:=wr.heap.size) (x:=2+k*8+j*n) (by rw[qa2,if_pos rfl];push_cast;rfl)) (by simp;omega) (by simp;omega) ?_;intro A' c' w' hown' hgr hloc);refine⟨⟨j+1,A',c',by omega,by go_num,by simp,?_,qck (HO.out.alloc _) hgr (HB.out.alloc (by omega) _) (by simp;omega)⟩,by simp[intOf];omega⟩;rw[List.range_succ,List.map_append];exact hown'
    · obtain rfl:j=q:=by omega
      go_wp2_with fail;go_ret;rw[HS.out];exact⟨A,ca,rfl,HO.out,HB.out⟩
end
section
open Go.RowKit
structure BlkC where
 cls:Int
 kind:Int
 id:Nat
 ver:Nat
 ep:Nat
 key:ByteArray
 val:ByteArray
 deriving DecidableEq
def BlkC.enc(x:BlkC):List Value:=[.int .i64 x.cls,.int .i64 x.kind,.int .u64 (x.id:Int),.int .u64 (x.ver:Int),.int .u64 (x.ep:Int),.string x.key,.string x.val]
def BlkC.v(x:BlkC):Value:=.agg x.enc.toArray
def blk0:BlkC:=⟨0,0,0,0,0,ByteArray.empty,ByteArray.empty⟩
def bl(s:ByteArray):List UInt8:=s.data.toList
theorem qfc(s:ByteArray):(bl s).length=s.size:=Array.length_toList
def u8I(x:Int):UInt8:=UInt8.ofNat (x%256).toNat
theorem qrg(x:Int):((u8I x).toNat:Int)=x%256:=by
 have h1:=Int.emod_nonneg x (show(256:Int)≠0 by decide);have h2:=Int.emod_lt_of_pos x (show(0:Int)<256 by decide);rw[u8I,UInt8.toNat_ofNat'];omega
theorem qjn(x:Int):IntKind.u8.wrap x=((u8I x).toNat:Int):=by
 rw[qrg];simp[IntKind.wrap,IntKind.signed,IntKind.bits]
def qsz(b:BlkC):List UInt8:=((((zeros 64).set 0 1).set 1 (u8I b.cls)).set 2 (u8I b.kind)).set 3 (u8I b.key.size)
def qsy(b:BlkC):List UInt8:=putL (putL (putL (putL (qsz b) 4 b.val.size 2) 8 b.id 8) 16 b.ver 8) 24 b.ep 8
def qfy(b:BlkC)(data:List UInt8):List UInt8:=qbj (putL (qsy b) 32 (sumL (sumL 0 ((qsy b).take 32)) data) 4) 36 (data.take 28)
theorem qlr(b:BlkC):(qsz b).length=64:=by simp[qsz,zeros]
theorem qlq(b:BlkC):(qsy b).length=64:=by simp[qsy,qb7,qlr]
theorem qcv(b:BlkC){data:List UInt8}(h:28<=data.length):(qfy b data).length=64:=by
 rw[qfy,qc1]
 · rw[qb7,qlq]
 · rw[qb7,qlq,List.length_take]
   omega
def qc6(b:BlkC):List UInt8:=qbj (zeros (capI b.cls)) 0 ((bl b.key++bl b.val).take (capI b.cls))
def ql0(d:List UInt8):Nat->List UInt8
 |0=>[]
 |n+1=>ql0 d n++qbj ((zeros 64).set 0 2) 1 (((d.drop 28).drop (63*n)).take 63)
def mayB(b:BlkC):Bool:=
 if qa9 b.cls=0 then false
 else if b.kind=0 then decide (b.id=0/\b.ver=0/\b.ep=0/\b.key.toList=[]/\b.val.toList=[])
 else if b.kind=1 then
  if b.key.size<1\/16<b.key.size then false
  else if 400<b.val.size\/qbh ((b.key.size:Int)+b.val.size)≠b.cls then false
  else qau b.id&&qau b.ver&&qau b.ep
 else if b.kind=2 then
  if b.key.size≠0\/400<b.val.size\/qbh (b.val.size:Int)≠b.cls then false
  else qau b.id&&qau b.ver&&qau b.ep
 else if b.kind=3 then
  if b.key.size+b.val.size≠0\/b.cls≠0 then false
  else qau b.id&&qau b.ver&&qau b.ep
 else false
def encB(b:BlkC):List UInt8:=qfy b (qc6 b)++ql0 (qc6 b) (qa9 b.cls-1)
def qbm(l:List UInt8):Nat->List UInt8
 |0=>[]
 |1=>(l.take 64).drop 36
 |n+2=>qbm l (n+1)++((l.drop (64*(n+1))).take 64).drop 1
def strB(l:List UInt8):ByteArray:=⟨l.toArray⟩
def qf7(l:List UInt8):Bool:=decide (l.length=64)&&decide ((l.getD 0 0).toNat=1)&&decide (qa9 ((l.getD 1 0).toNat:Int)≠0)&&decide ((l.getD 2 0).toNat<=3)
def parsed(l:List UInt8):BlkC:=
 let k:=(l.getD 3 0).toNat
 let n:=getL l 4 2
 let all:=qbm l (l.length/64)
 ⟨((l.getD 1 0).toNat:Int),((l.getD 2 0).toNat:Int),getL l 8 8,getL l 16 8,getL l 24 8,strB (all.take k),strB ((all.drop k).take n)⟩
def decB(l:List UInt8):Option BlkC:=
 if l.length<64\/qf7 (l.take 64)=false\/l.length≠qa9 ((l.getD 1 0).toNat:Int)*64 then none
 else if (qbm l (l.length/64)).length<(l.getD 3 0).toNat+getL l 4 2 then none
 else if mayB (parsed l)=true/\encB (parsed l)=l then some (parsed l)else none
end
section
open Go.Shelf
def qho:Go.Shelf.Ren:=⟨λ| 7=>298|10=>335|n=>n,λ| 23=>195|26=>9|3=>85|28=>411|0=>0|27=>410|33=>441|4=>4|n=>n,λ| n=>n⟩
theorem qz3:Go.Proofs.SlLaysZ.n7 prog qho:={
 mixed:=by kernel_rfl
 f7:=⟨Tryz.f298.name,by decide,func298.trans (congrArg some (by kernel_rfl))⟩
 f10:=⟨Tryz.f335.name,by decide,func335.trans (congrArg some (by kernel_rfl))⟩
 t0:=underlying0
 a0:=Tryz.isAgg0
 z0:=Tryz.sizeOf0
 v0:=Tryz.zeroValue0
 t4:=underlying4
 a4:=Tryz.isAgg4
 z4:=Tryz.sizeOf4
 v4:=Tryz.zeroValue4
 t23:=underlying195
 a23:=Tryz.isAgg195
 z23:=Tryz.sizeOf195
 v23:=Tryz.zeroValue195
 t26:=underlying9
 a26:=Tryz.isAgg9
 z26:=Tryz.sizeOf9
 v26:=Tryz.zeroValue9
 t27:=underlying410
 a27:=Tryz.isAgg410
 z27:=Tryz.sizeOf410
 v27:=Tryz.zeroValue410
 t28:=underlying411
 a28:=Tryz.isAgg411
 z28:=Tryz.sizeOf411
 v28:=Tryz.zeroValue411
 t33:=underlying441
 a33:=Tryz.isAgg441
 z33:=Tryz.sizeOf441
 v33:=Tryz.zeroValue441}
def qh8:Go.Shelf.Ren:=⟨λ| 6=>297|8=>333|9=>334|11=>361|13=>126|12=>362|23=>170|24=>171|14=>374|15=>375|16=>376|17=>377|18=>378|19=>379|20=>380|21=>381|22=>382|25=>387|26=>222|27=>223|28=>388|29=>389|30=>390|31=>391|n=>n,λ| 26=>9|28=>411|24=>46|0=>0|3=>3|37=>104|48=>129|50=>55|4=>4|40=>315|39=>314|45=>319|5=>5|9=>9|51=>345|55=>348|57=>399|58=>400|33=>441|n=>n,λ| n=>n⟩
theorem qrv:Go.Proofs.SlLaysZ.n6 prog qh8:={
 mixed:=by kernel_rfl
 f6:=⟨Tryz.f297.name,by decide,func297.trans (congrArg some (by kernel_rfl))⟩
 f8:=⟨Tryz.f333.name,by decide,func333.trans (congrArg some (by kernel_rfl))⟩
 f11:=⟨Tryz.f361.name,by decide,func361.trans (congrArg some (by kernel_rfl))⟩
 t0:=underlying0
 a0:=Tryz.isAgg0
 z0:=Tryz.sizeOf0
 v0:=Tryz.zeroValue0
 t24:=underlying46
 a24:=Tryz.isAgg46
 z24:=Tryz.sizeOf46
 v24:=Tryz.zeroValue46
 t26:=underlying9
 a26:=Tryz.isAgg9
 z26:=Tryz.sizeOf9
 v26:=Tryz.zeroValue9
 t28:=underlying411
 a28:=Tryz.isAgg411
 z28:=Tryz.sizeOf411
 v28:=Tryz.zeroValue411
 i26:=by kernel_rfl}
def qrw:Go.Shelf.Ren:=⟨λ| 6=>334|8=>126|9=>362|19=>170|20=>171|21=>374|22=>375|23=>376|24=>377|25=>378|26=>379|27=>380|28=>381|29=>382|36=>387|31=>222|32=>223|37=>388|38=>389|39=>390|41=>391|n=>n,λ| 27=>46|29=>9|3=>3|32=>104|26=>46|0=>0|44=>129|46=>55|4=>4|36=>315|35=>314|41=>319|5=>5|9=>9|53=>345|57=>348|63=>399|64=>400|n=>n,λ| n=>n⟩
theorem qA6:Go.Proofs.SlLaysM.n6 prog qrw:={
 mixed:=by kernel_rfl
 f6:=⟨Tryz.f334.name,by decide,func334.trans (congrArg some (by kernel_rfl))⟩
 f8:=func126.trans (congrArg some (by kernel_rfl))
 f9:=⟨Tryz.f362.name,by decide,func362.trans (congrArg some (by kernel_rfl))⟩
 f19:=func170.trans (congrArg some (by kernel_rfl))
 f20:=func171.trans (congrArg some (by kernel_rfl))
 f21:=⟨Tryz.f374.name,by decide,func374.trans (congrArg some (by kernel_rfl))⟩
 f22:=⟨Tryz.f375.name,by decide,func375.trans (congrArg some (by kernel_rfl))⟩
 f23:=⟨Tryz.f376.name,by decide,func376.trans (congrArg some (by kernel_rfl))⟩
 f24:=⟨Tryz.f377.name,by decide,func377.trans (congrArg some (by kernel_rfl))⟩
 f25:=⟨Tryz.f378.name,by decide,func378.trans (congrArg some (by kernel_rfl))⟩
 f26:=⟨Tryz.f379.name,by decide,func379.trans (congrArg some (by kernel_rfl))⟩
 f27:=⟨Tryz.f380.name,by decide,func380.trans (congrArg some (by kernel_rfl))⟩
 f28:=⟨Tryz.f381.name,by decide,func381.trans (congrArg some (by kernel_rfl))⟩
 f29:=⟨Tryz.f382.name,by decide,func382.trans (congrArg some (by kernel_rfl))⟩
 f31:=func222.trans (congrArg some (by kernel_rfl))
 f32:=func223.trans (congrArg some (by kernel_rfl))
 f36:=⟨Tryz.f387.name,by decide,func387.trans (congrArg some (by kernel_rfl))⟩
 f37:=⟨Tryz.f388.name,by decide,func388.trans (congrArg some (by kernel_rfl))⟩
 f38:=⟨Tryz.f389.name,by decide,func389.trans (congrArg some (by kernel_rfl))⟩
 f39:=⟨Tryz.f390.name,by decide,func390.trans (congrArg some (by kernel_rfl))⟩
 f41:=⟨Tryz.f391.name,by decide,func391.trans (congrArg some (by kernel_rfl))⟩
 t0:=underlying0
 a0:=Tryz.isAgg0
 z0:=Tryz.sizeOf0
 v0:=Tryz.zeroValue0
 t3:=underlying3
 a3:=Tryz.isAgg3
 z3:=Tryz.sizeOf3
 v3:=Tryz.zeroValue3
 t4:=underlying4
 a4:=Tryz.isAgg4
 z4:=Tryz.sizeOf4
 v4:=Tryz.zeroValue4
 t5:=underlying5
 a5:=Tryz.isAgg5
 z5:=Tryz.sizeOf5
 v5:=Tryz.zeroValue5
 t9:=underlying9
 a9:=Tryz.isAgg9
 z9:=Tryz.sizeOf9
 v9:=Tryz.zeroValue9
 t26:=underlying46
 a26:=Tryz.isAgg46
 z26:=Tryz.sizeOf46
 v26:=Tryz.zeroValue46
 t27:=underlying46
 a27:=Tryz.isAgg46
 z27:=Tryz.sizeOf46
 v27:=Tryz.zeroValue46
 t29:=underlying9
 a29:=Tryz.isAgg9
 z29:=Tryz.sizeOf9
 v29:=Tryz.zeroValue9
 t32:=underlying104
 a32:=Tryz.isAgg104
 z32:=Tryz.sizeOf104
 v32:=Tryz.zeroValue104
 t35:=underlying314
 a35:=Tryz.isAgg314
 z35:=Tryz.sizeOf314
 v35:=Tryz.zeroValue314
 t36:=underlying315
 a36:=Tryz.isAgg315
 z36:=Tryz.sizeOf315
 v36:=Tryz.zeroValue315
 t41:=underlying319
 a41:=Tryz.isAgg319
 z41:=Tryz.sizeOf319
 v41:=Tryz.zeroValue319
 t44:=underlying129
 a44:=Tryz.isAgg129
 z44:=Tryz.sizeOf129
 v44:=Tryz.zeroValue129
 t46:=underlying55
 a46:=Tryz.isAgg55
 z46:=Tryz.sizeOf55
 v46:=Tryz.zeroValue55
 t53:=underlying345
 a53:=Tryz.isAgg345
 z53:=Tryz.sizeOf345
 v53:=Tryz.zeroValue345
 t57:=underlying348
 a57:=Tryz.isAgg348
 z57:=Tryz.sizeOf348
 v57:=Tryz.zeroValue348
 t63:=underlying399
 a63:=Tryz.isAgg399
 z63:=Tryz.sizeOf399
 v63:=Tryz.zeroValue399
 t64:=underlying400
 a64:=Tryz.isAgg400
 z64:=Tryz.sizeOf400
 v64:=Tryz.zeroValue400}
def qh9:Go.Shelf.Ren:=⟨λ| 6=>94|15=>126|14=>125|28=>170|29=>171|20=>162|21=>163|22=>164|23=>165|24=>166|25=>167|26=>168|27=>169|46=>221|47=>222|48=>223|49=>224|50=>225|57=>286|n=>n,λ| 22=>141|24=>85|25=>201|3=>3|39=>104|0=>0|53=>129|55=>55|4=>4|46=>315|45=>314|50=>319|5=>5|9=>9|66=>345|70=>348|76=>399|77=>400|n=>n,λ| n=>n⟩
theorem qA7:Go.Proofs.SlLaysF0.n6 prog qh9:={
 mixed:=by kernel_rfl
 f6:=⟨Tryz.f94.name,by decide,func94.trans (congrArg some (by kernel_rfl))⟩
 f14:=⟨Tryz.f125.name,by decide,func125.trans (congrArg some (by kernel_rfl))⟩
 f15:=func126.trans (congrArg some (by kernel_rfl))
 f20:=⟨Tryz.f162.name,by decide,func162.trans (congrArg some (by kernel_rfl))⟩
 f21:=⟨Tryz.f163.name,by decide,func163.trans (congrArg some (by kernel_rfl))⟩
 f22:=⟨Tryz.f164.name,by decide,func164.trans (congrArg some (by kernel_rfl))⟩
 f23:=⟨Tryz.f165.name,by decide,func165.trans (congrArg some (by kernel_rfl))⟩
 f24:=⟨Tryz.f166.name,by decide,func166.trans (congrArg some (by kernel_rfl))⟩
 f25:=⟨Tryz.f167.name,by decide,func167.trans (congrArg some (by kernel_rfl))⟩
 f26:=⟨Tryz.f168.name,by decide,func168.trans (congrArg some (by kernel_rfl))⟩
 f27:=⟨Tryz.f169.name,by decide,func169.trans (congrArg some (by kernel_rfl))⟩
 f28:=func170.trans (congrArg some (by kernel_rfl))
 f29:=func171.trans (congrArg some (by kernel_rfl))
 f46:=⟨Tryz.f221.name,by decide,func221.trans (congrArg some (by kernel_rfl))⟩
 f47:=func222.trans (congrArg some (by kernel_rfl))
 f48:=func223.trans (congrArg some (by kernel_rfl))
 f49:=⟨Tryz.f224.name,by decide,func224.trans (congrArg some (by kernel_rfl))⟩
 f50:=⟨Tryz.f225.name,by decide,func225.trans (congrArg some (by kernel_rfl))⟩
 f57:=⟨Tryz.f286.name,by decide,func286.trans (congrArg some (by kernel_rfl))⟩
 t0:=underlying0
 a0:=Tryz.isAgg0
 z0:=Tryz.sizeOf0
 v0:=Tryz.zeroValue0
 t3:=underlying3
 a3:=Tryz.isAgg3
 z3:=Tryz.sizeOf3
 v3:=Tryz.zeroValue3
 t4:=underlying4
 a4:=Tryz.isAgg4
 z4:=Tryz.sizeOf4
 v4:=Tryz.zeroValue4
 t5:=underlying5
 a5:=Tryz.isAgg5
 z5:=Tryz.sizeOf5
 v5:=Tryz.zeroValue5
 t9:=underlying9
 a9:=Tryz.isAgg9
 z9:=Tryz.sizeOf9
 v9:=Tryz.zeroValue9
 t22:=underlying141
 a22:=Tryz.isAgg141
 z22:=Tryz.sizeOf141
 v22:=Tryz.zeroValue141
 t25:=underlying201
 a25:=Tryz.isAgg201
 z25:=Tryz.sizeOf201
 v25:=Tryz.zeroValue201
 t39:=underlying104
 a39:=Tryz.isAgg104
 z39:=Tryz.sizeOf104
 v39:=Tryz.zeroValue104
 t45:=underlying314
 a45:=Tryz.isAgg314
 z45:=Tryz.sizeOf314
 v45:=Tryz.zeroValue314
 t46:=underlying315
 a46:=Tryz.isAgg315
 z46:=Tryz.sizeOf315
 v46:=Tryz.zeroValue315
 t50:=underlying319
 a50:=Tryz.isAgg319
 z50:=Tryz.sizeOf319
 v50:=Tryz.zeroValue319
 t53:=underlying129
 a53:=Tryz.isAgg129
 z53:=Tryz.sizeOf129
 v53:=Tryz.zeroValue129
 t55:=underlying55
 a55:=Tryz.isAgg55
 z55:=Tryz.sizeOf55
 v55:=Tryz.zeroValue55
 t66:=underlying345
 a66:=Tryz.isAgg345
 z66:=Tryz.sizeOf345
 v66:=Tryz.zeroValue345
 t70:=underlying348
 a70:=Tryz.isAgg348
 z70:=Tryz.sizeOf348
 v70:=Tryz.zeroValue348
 t76:=underlying399
 a76:=Tryz.isAgg399
 z76:=Tryz.sizeOf399
 v76:=Tryz.zeroValue399
 t77:=underlying400
 a77:=Tryz.isAgg400
 z77:=Tryz.sizeOf400
 v77:=Tryz.zeroValue400}
end
end Go.Proofs.YtecikkjbnkhhkaaGreat
