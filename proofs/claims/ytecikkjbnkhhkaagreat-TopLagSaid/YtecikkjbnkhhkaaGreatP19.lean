/- A part of the walk. -/
import Derived.Test.YtecikkjbnkhhkaaGreatP18
import Derived.Test.YtecikkjbnkhhkaaGreatP11
import Derived.Lib.BufferRead
import Derived.Lib.SlBytesRow
namespace Go.Proofs.YtecikkjbnkhhkaaGreat
open _root_.Go.Proofs.Tryz
set_option maxHeartbeats 4000000
set_option maxRecDepth 100000
section
open Go.RowKit
theorem qtt(a b:ByteArray):bl (a++b)=bl a++bl b:=by simp[bl]
theorem qfa(c:Int)(h:¬qa9 c=0):capI c=28+63*(qa9 c-1)/\1<=qa9 c/\qa9 c<=8:=by
 rcases qm5 c with rfl|rfl|rfl|rfl|h4
 · simp[capI,qa9]
 · simp[capI,qa9]
 · simp[capI,qa9]
 · simp[capI,qa9]
 · exact absurd (qe1 h4) h
theorem qhu{b:BlkC}(_h:mayB b=true):(qc6 b).length=capI b.cls:=by
 rw[qc6,qc1,zeros,List.length_replicate];rw[zeros,List.length_replicate,List.length_take];omega
theorem qr1(b:BlkC)(w:World)(hk:b.key.size<=1000000)(hv:b.val.size<=1000000)(h:mayB b=false):Calls prog 132 #[b.v] w λe w'=>e=.returned (.tuple #[.slice none 0 0,.int .i64 3])/\Below w.heap.size w w':=by
 have HVV:=hid (show b.v=.agg #[.int .i64 b.cls,.int .i64 b.kind,.int .u64 (b.id:Int),.int .u64 (b.ver:Int),.int .u64 (b.ep:Int),.string b.key,.string b.val]from rfl);have TM:=λW=>qkl b W hk hv
 rw[HVV.out]at TM ⊢;have HTM:=hid TM;have HM:=hid h;clear TM h;go_enter func132,ntmps132;go_upto_region 1 with fail;generalize hw1:World.alloc w _=w1;have b1:Below w.heap.size w w1:=by rw[<-hw1];exact(Below.refl _ _).alloc (Nat.le_refl _) _
 have R1:w1.heap[w.heap.size]? =some (.cells b.enc.toArray 203 (0,0)):=by rw[<-hw1];exact(qa2 _ _ _).trans (if_pos rfl)
 have HB1:=hid b1;obtain⟨q0,q1,q2,q3,q4,q5,q6⟩:=BlkC.cells R1;have hl1:=qa0 R1;clear hw1 b1 R1;go_wp2_with fail;refine(HTM.out w1).mono ?_;rintro e w2⟨rfl,hb⟩;rw[HM.out];have HB2:=hid (HB1.out.trans (hb.mono HB1.out.size));clear hb;go_wp2_with fail;refine bodyPost_ret (v:=.tuple #[.slice none 0 0,.int .i64 3]) (by simp[results,results132]) rfl ⟨rfl,HB2.out⟩
def qxv(b:BlkC)(w:World)(e:Ending)(w':World):Prop:=∃A c,e=.returned (.tuple #[.slice A (encB b).length c,.int .i64 0])/\Own byE 5 1 w' w.heap.size A c (encB b)/\Below w.heap.size w w'
theorem qhz(b:BlkC)(w:World)(h:mayB b=true):Calls prog 132 #[b.v] w (qxv b w):=by
 obtain⟨r1,r2,r3,r4,r5,r6,r7⟩:=qeg h;obtain⟨cs1,cs2,cs3⟩:=qfa b.cls r1;have HDL:=hid (qhu h);have HVV:=hid (show b.v=.agg #[.int .i64 b.cls,.int .i64 b.kind,.int .u64 (b.id:Int),.int .u64 (b.ver:Int),.int .u64 (b.ep:Int),.string b.key,.string b.val]from rfl);have TM:=λW=>qkl b W (by omega) (by omega)
 have TH:=λ(A:Option Addr) (c:Nat) (W:World) (hA:Arr byE 1 W W.heap.size A (qc6 b)) (hc:(qc6 b).length<=c) (hcm:c<=9223372036854775807)=>qm9 b (qc6 b) A c W hA (by rw[HDL.out];omega) (by rw[HDL.out];omega) hc hcm (by omega) (by omega) r5 r6 r7
 rw[HVV.out]at TM TH ⊢;have HTM:=hid TM;have HTH:=hid TH;have HM:=hid h;obtain⟨m,hm⟩:∃m,m=qa9 b.cls-1:=⟨_,rfl⟩;have hspan:qa9 b.cls=m+1:=by omega
 obtain⟨n,hn⟩:∃n,n=capI b.cls:=⟨_,rfl⟩;have hnm:n=28+63*m:=by omega
 have hm7:m<=7:=by omega
 have HNM:=hid hnm;have hn500:n<=1000:=by omega
 have HN:=hid hn;have HSP:=hid hspan;have HR4:Hid (b.key.size+b.val.size<=n):=hid (by omega);have hdl:Hid ((qc6 b).length=n):=hid (by rw[HDL.out,hn]);have MKn:∀W,(Instr.makeSlice 86 (.int .i64 (n:Int)) (.int .i64 (n:Int))).run prog W=.ok (.slice (some ⟨W.heap.size,0,none⟩) n n) (W.alloc (.cells (byC (zeros n)).toArray 5)):=λW=>mkB n (by omega) W
 obtain⟨Z,hZ⟩:∃Z,Z=(byC (zeros n)).toArray:=⟨_,rfl⟩;rw[<-hZ]at MKn;have HZ:=hid hZ;clear TM TH h hm hspan hn hnm hZ cs1 cs2 cs3 r1 r2 r3 r4 r5 r6 r7;go_enter func132,ntmps132;go_upto_region 1 with fail;generalize hw1:World.alloc w _=w1;have b1:Below w.heap.size w w1:=by rw[<-hw1];exact(Below.refl _ _).alloc (Nat.le_refl _) _
 have R1:w1.heap[w.heap.size]? =some (.cells b.enc.toArray 203 (0,0)):=by rw[<-hw1];exact(qa2 _ _ _).trans (if_pos rfl)
 have HB1:=hid b1;have HR1:=hid R1;obtain⟨q0,q1,q2,q3,q4,q5,q6⟩:=BlkC.cells R1;have hl1:=qa0 R1;clear hw1 b1 R1;go_wp2_with fail;refine(HTM.out w1).mono ?_;rintro e w2⟨rfl,hb⟩;rw[HM.out];have HB2:=hid (HB1.out.trans (hb.mono HB1.out.size));have HR2:=hid ((hb.block _ hl1).trans HR1.out);clear hb q0 q1 q2 q3 q4 q5 q6 hl1;obtain⟨q0,q1,q2,q3,q4,q5,q6⟩:=BlkC.cells HR2.out;have hl2:=qa0 HR2.out;go_wp2_with fail;refine(qo0 b.cls w2).mono ?_;rintro e w3⟨rfl,rfl⟩;rw[<-HN.out];have RZ:RowB (w3.alloc (.cells Z 5)) w3.heap.size 5 (zeros n):=by rw[RowB,HZ.out];exact(qa2 _ _ _).trans (if_pos rfl)
 have HRZ:=hid RZ;clear RZ;obtain⟨w4,HCP,R4,O4,B4⟩:=qnx (dCap:=n) (dLen:=n) (off:=0) (m:=b.key++b.val) _ HRZ.out (by rw[ByteArray.size_append];exact HR4.out) (by rw[zeros,List.length_replicate,Nat.zero_add];exact Nat.le_refl _);have HR4b:=hid ((O4 w.heap.size (by omega)).trans ((Below.heap_alloc _ _ _ hl2).trans HR2.out));obtain⟨p0,p1,p2,p3,p4,p5,p6⟩:=BlkC.cells HR4b.out;have hl4:=qa0 HR4b.out;have hcat:b.key.size+b.val.size<=9223372036854775807:=by have:=HR4.out;omega
 have HO4:=hid O4;have HB4':=hid B4;have HRR4':=hid R4;clear O4 B4 R4;go_wp2_with fail;have R4:=HRR4'.out;have O4:=HO4.out;have B4:=HB4'.out;have HDB:Hid (qbj (zeros n) 0 (bl (b.key++b.val))=qc6 b):=hid (by rw[qc6,<-HN.out,qtt,List.take_of_length_le (by have:=HR4.out;rw[List.length_append,qfc,qfc];omega)]);rw[HDB.out]at R4;have HRR4:=hid R4;have hz3:w.heap.size<=w3.heap.size:=HB2.out.size;have HB4:=hid (B4 w.heap.size w (HB2.out.alloc hz3 _) hz3);have hr4:=qa0 HRR4.out;have TT:=HTH.out (some ⟨w3.heap.size,0,none⟩) n w4 HRR4.out.arr0 (by rw[hdl.out];exact Nat.le_refl _) (by omega);rw[hdl.out]at TT;clear R4 O4 B4 q0 q1 q2 q3 q4 q5 q6 MKn HTM HTH hl2;refine TT.mono ?_;clear TT;rintro e w5⟨A5,c5,rfl,hown,hb⟩;have hhl:(qfy b (qc6 b)).length=64:=qcv b (by rw[hdl.out];have:=HNM.out;omega);have HB5:=hid (HB4.out.trans (hb.mono HB4.out.size));have HO5:=hid hown;have HRR5:=hid (HRR4.out.below hb hr4);have HR5b:=hid ((hb.block _ hl4).trans HR4b.out);have q0:=(hb.cell (p:=⟨w.heap.size,0,none⟩) hl4).trans p0;have hl5:=qa0 HR5b.out;have hr5:=qa0 HRR5.out;clear hown hb p0 p1 p2 p3 p4 p5 p6 hl4 hr4;by_cases hm0:m=0
 · have hn28:n=28:=by have:=HNM.out;omega
   have hs1:qa9 b.cls=1:=by have:=HSP.out;omega
   have HE:Hid (encB b=qfy b (qc6 b)):=hid (by rw[encB,hs1];simp[ql0]);subst hn28;go_wp2_with fail;refine(qaw b.cls w5).mono ?_;rintro e w6⟨rfl,rfl⟩;rw[hs1];go_wp2_with fail;go_loopw [5,31] (λv5 v31 wr=>v31=.int .i64 0/\v5=.slice A5 (qfy b (qc6 b)).length c5/\wr=w6) (λ_ _ _=>0)
   case atStart=>exact⟨rfl,by rw[hhl],rfl⟩
   case round =>
    obtain⟨rfl,rfl,rfl⟩:=hrel;go_wp2_with fail;refine bodyPost_ret (v:=.tuple #[.slice A5 (encB b).length c5,.int .i64 0]) (by rw[HE.out];simp[results,results132]) rfl ⟨A5,c5,rfl,?_,HB5.out⟩;rw[HE.out];exact HO5.out.lower HB4.out.size
 · have h28n:28<=n:=by have:=HNM.out;omega
   have h28:(28:Int)<=(n:Int):=by omega
   have hne28:¬n=28:=by have:=HNM.out;omega
   go_wp2_with fail;refine(qaw b.cls w5).mono ?_;rintro e w6⟨rfl,rfl⟩;rw[HSP.out];have i1:IntKind.i64.wrap (((m+1:Nat):Int)-1)=(m:Int):=by rw[show((m+1:Nat):Int)-1=(m:Int)by omega];exact Go.IntWalk.i64_in _ (by omega)
   go_wp2_with fail;have hz45:w3.heap.size<w4.heap.size:=qa0 HRR4.out;have hz56:w4.heap.size<=w6.heap.size:=by
    rcases HO5.out.lt with h0|⟨_,_,_,h1,h2⟩
    · have:=HO5.out.len;rw[h0,hhl]at this;omega
    · omega
   go_loopw [4,5,31] (λv4 v5 v31 wr=>∃(k:Nat) (A4:Option Addr) (q:Nat) (A:Option Addr) (c:Nat) (N:List UInt8),k<=m/\v31=.int .i64 k/\v4=.slice A4 q q/\Hid (q=63*(m-k))/\Hid (k<m->A4=some ⟨w3.heap.size,28+63*k,none⟩)/\v5=.slice A N.length c/\Hid (N=qfy b (qc6 b)++ql0 (qc6 b) k)/\Hid (N.length=64+64*k)/\Own byE 5 1 wr w4.heap.size A c N/\RowB wr w3.heap.size 5 (qc6 b)/\Below w.heap.size w wr/\w6.heap.size<=wr.heap.size) (λ_ _ v31 _=>m-(intOf v31).toNat)
   case atStart=>exact⟨0,_,n-28,A5,c5,qfy b (qc6 b),by omega,rfl,rfl,hid (by have:=HNM.out;omega),hid λ_=>rfl,by rw[hhl],hid (by simp[ql0]),hid hhl,HO5.out,HRR5.out,HB5.out,Nat.le_refl _⟩
   case round =>
    obtain⟨k,A4,q,A,c,N,hk,rfl,rfl,HQ,HA4,rfl,HN0,HNL,hown,hrow,hb,hsz⟩:=hrel;have HO:=hid hown;have HR:=hid hrow;have HB:=hid hb;by_cases hlt:k<m
    · have hki:(k:Int)<(m:Int):=by omega
      obtain rfl:=HA4.out hlt;have hwz:=hb.size;have hrl:=qa0 hrow;obtain⟨w7,MK,R7,B7,S7⟩:=qnd 64 (by omega) wr;have MK':(Instr.makeSlice 86 (.int .i64 64) (.int .i64 64)).run prog wr=.ok (.slice (some ⟨wr.heap.size,0,none⟩) 64 64) w7:=MK;have z0:=R7.cell (i:=0) (by simp[zeros]);have f0:=frozen_of_row w7 _ 0 _ _ R7;have hl7:=qa0 R7;have R8:RowB (w7.setCell ⟨wr.heap.size,0,none⟩ (.int .u8 2)) wr.heap.size 5 ((zeros 64).set 0 2):=R7.put1 0 2;have HR8:=hid R8;have HD8:Hid (RowB (w7.setCell ⟨wr.heap.size,0,none⟩ (.int .u8 2)) w3.heap.size 5 (qc6 b)):=hid (((Below.heap_setCell w7 _ _ _ (by show w3.heap.size≠wr.heap.size;omega)).trans (B7.block _ hrl)).trans hrow);have HO8:Hid (Own byE 5 1 (w7.setCell ⟨wr.heap.size,0,none⟩ (.int .u8 2)) w4.heap.size A c N):=hid (hown.keep λb' _ _ _ hlt'=>(Below.heap_setCell w7 _ _ _ (by show b'≠wr.heap.size;omega)).trans (B7.block _ hlt'));have H8:Hid (∀j,j<wr.heap.size->(w7.setCell ⟨wr.heap.size,0,none⟩ (.int .u8 2)).heap[j]? =wr.heap[j]?):=hid λj hj=>(Below.heap_setCell w7 _ _ _ (by show j≠wr.heap.size;omega)).trans (B7.block _ hj)
      have HB8:Hid (Below w.heap.size w (w7.setCell ⟨wr.heap.size,0,none⟩ (.int .u8 2))):=hid ((hb.trans (B7.mono hwz)).setCell (p:=⟨wr.heap.size,0,none⟩) hwz _);have hdd:Hid (((qc6 b).drop (28+63*k)).length=q):=hid (by rw[List.length_drop,hdl.out,HQ.out];have:=HNM.out;omega);have hq63:63<=q:=by rw[HQ.out];omega
      have hq63i:(63:Int)<=(q:Int):=by omega
      have hmin:Nat.min q 63=63:=Nat.min_eq_right hq63;have hne:(qc6 b).drop (28+63*k)≠ []:=λh0=>by have:=hdd.out;rw[h0]at this;simp at this;omega
      have HNE:=hid hne;have hi64:Hid (N.length<=1000):=hid (by rw[HNL.out];omega);obtain⟨NL,hNL⟩:∃NL,NL=qbj ((zeros 64).set 0 2) 1 (((qc6 b).drop (28+63*k)).take 63):=⟨_,rfl⟩;have hnl:NL.length=64:=by
       rw[hNL,qc1]; · simp[zeros]
       · rw[List.length_take,hdd.out];simp[zeros];omega
      have HLL:=hid hnl;have HNL':=hid hNL;have HTL:Hid (ql0 (qc6 b) (k+1)=ql0 (qc6 b) k++NL):=hid (by rw[ql0,hNL,List.drop_drop]);have h78:w7.heap.size=wr.heap.size+1:=S7;clear hown hrow hb MK R7 R8 B7 hne hNL hnl S7;by_cases hq:q=63
      · have HQ3:=hid hq
        subst hq;go_wp2_with(first
         |(refine qbd (m:=(qc6 b).drop (28+63*k)) _ rfl (.tmp 37) (.tmp 38) rfl (by first|rfl|simp[Act.eval]) (by rw[hdd.out];first|rfl|simp[Act.eval]) (HD8.out.arr (28+63*k)) HNE.out HR8.out (by simp[zeros]) ?_;intro w9 R9 O9 B9;rw[hdd.out,hmin];rw[<-HNL'.out]at R9;have HR9:=hid R9;have HOO9:=hid O9;have HBB9:=hid B9;have hs9:=(B9 0 _ (Below.refl 0 _) (Nat.zero_le _)).size;simp only[World.size_setCell]at hs9;clear R9 O9 B9)
         |(at_builtin;refine qdw (l:=N) (m:=NL) (A:=A) (c:=c) (lo:=w4.heap.size) _ rfl (.tmp 43) (.tmp 44) rfl (by simp[Act.eval]) (HO.out.keep λb' _ _ _ hlt'=>(HOO9.out b' (by omega)).trans (H8.out b' hlt')) (A2:=some ⟨wr.heap.size,0,none⟩) 64 (by rw[HLL.out];simp[Act.eval]) (HR9.out.arr0) (by rw[HLL.out];have:=hi64.out;omega) (by omega) ?_;intro A9 c9 w10 hown9 hgr9 hloc9))
        have hO9:Own byE 5 1 w9 w4.heap.size A c N:=HO.out.keep λb' _ _ _ hlt'=>(HOO9.out b' (by omega)).trans (H8.out b' hlt')
        have b9:=HBB9.out w.heap.size w HB8.out (by omega);have b10:Below w.heap.size w w10:=b9.grown hgr9 (by omega) (λk' hk'=>by
         rcases hO9.lt with h0|⟨b',off',hA,hlo',_⟩
         · rw[qa8,if_pos h0]at hk';cases hk'
         · rw[qa8]at hk'
           split at hk'
           · cases hk'
           · rw[hA]at hk';simp at hk';omega)
        have d10:RowB w10 w3.heap.size 5 (qc6 b):=(hgr9.block _ (by omega) (λh0=>by
         rcases hO9.lt with h1|⟨b',off',hA,hlo',_⟩
         · rw[qa8,if_pos h1]at h0;cases h0
         · rw[qa8]at h0
           split at h0
           · cases h0
           · rw[hA]at h0;simp at h0;omega)).trans ((HOO9.out _ (by omega)).trans HD8.out)
        have hs10:=hgr9.size;refine⟨⟨k+1,_,0,A9,c9,N++NL,by omega,by go_num,rfl,hid (by have:=HQ.out;omega),hid λh0=>?_,by simp,hid (by rw[HTL.out,HN0.out,List.append_assoc]),hid (by rw[List.length_append,HNL.out,HLL.out];omega),hown9,d10,b10,by omega⟩,by simp[intOf];omega⟩;have:=HQ.out;omega
      · go_wp2_with(first
         |(refine qbd (m:=(qc6 b).drop (28+63*k)) _ rfl (.tmp 37) (.tmp 38) rfl (by first|rfl|simp[Act.eval]) (by rw[hdd.out];first|rfl|simp[Act.eval]) (HD8.out.arr (28+63*k)) HNE.out HR8.out (by simp[zeros]) ?_;intro w9 R9 O9 B9;rw[hdd.out,hmin];rw[<-HNL'.out]at R9;have HR9:=hid R9;have HOO9:=hid O9;have HBB9:=hid B9;have hs9:=(B9 0 _ (Below.refl 0 _) (Nat.zero_le _)).size;simp only[World.size_setCell]at hs9;clear R9 O9 B9)
         |(at_builtin;refine qdw (l:=N) (m:=NL) (A:=A) (c:=c) (lo:=w4.heap.size) _ rfl (.tmp 43) (.tmp 44) rfl (by simp[Act.eval]) (HO.out.keep λb' _ _ _ hlt'=>(HOO9.out b' (by omega)).trans (H8.out b' hlt')) (A2:=some ⟨wr.heap.size,0,none⟩) 64 (by rw[HLL.out];simp[Act.eval]) (HR9.out.arr0) (by rw[HLL.out];have:=hi64.out;omega) (by omega) ?_;intro A9 c9 w10 hown9 hgr9 hloc9))
        have hO9:Own byE 5 1 w9 w4.heap.size A c N:=HO.out.keep λb' _ _ _ hlt'=>(HOO9.out b' (by omega)).trans (H8.out b' hlt')
        have b9:=HBB9.out w.heap.size w HB8.out (by omega);have b10:Below w.heap.size w w10:=b9.grown hgr9 (by omega) (λk' hk'=>by
         rcases hO9.lt with h0|⟨b',off',hA,hlo',_⟩
         · rw[qa8,if_pos h0]at hk';cases hk'
         · rw[qa8]at hk'
           split at hk'
           · cases hk'
           · rw[hA]at hk';simp at hk';omega)
        have d10:RowB w10 w3.heap.size 5 (qc6 b):=(hgr9.block _ (by omega) (λh0=>by
         rcases hO9.lt with h1|⟨b',off',hA,hlo',_⟩
         · rw[qa8,if_pos h1]at h0;cases h0
         · rw[qa8]at h0
           split at h0
           · cases h0
           · rw[hA]at h0;simp at h0;omega)).trans ((HOO9.out _ (by omega)).trans HD8.out)
        have hs10:=hgr9.size;refine⟨⟨k+1,_,q-63,A9,c9,N++NL,by omega,by go_num,rfl,hid (by have:=HQ.out;omega),hid λh0=>?_,by simp,hid (by rw[HTL.out,HN0.out,List.append_assoc]),hid (by rw[List.length_append,HNL.out,HLL.out];omega),hown9,d10,b10,by omega⟩,by simp[intOf];omega⟩;rw[show 28+63*(k+1)=28+63*k+63 by omega]
    · obtain rfl:k=m:=by omega
      have HE:Hid (encB b=N):=hid (by rw[HN0.out,encB,HSP.out];rfl);clear hown hrow hb;go_wp2_with fail;refine bodyPost_ret (v:=.tuple #[.slice A (encB b).length c,.int .i64 0]) (by rw[HE.out];simp[results,results132]) rfl ⟨A,c,rfl,?_,HB.out⟩;rw[HE.out];exact HO.out.lower HB4.out.size
end
section
open Go.RowKit
def qgj(c:Int):List UInt8:=qfy {blk0 with cls:=c} (zeros (capI c))
theorem qr2(k:Int)(w:World)(hk:¬qa9 k=0):Calls prog 268 #[.int .i64 k] w (qpi (qgj k) w):=by
 obtain⟨cs1,cs2,cs3⟩:=qfa k hk;obtain⟨n,hn⟩:∃n,n=capI k:=⟨_,rfl⟩;have hzl:(zeros n).length=n:=by simp[zeros]
 obtain⟨HD,hHD⟩:∃HD,HD=qfy {blk0 with cls:=k} (zeros n):=⟨_,rfl⟩;have TH:∀(A:Option Addr) (W:World),Arr byE 1 W W.heap.size A (zeros n)->Calls prog 175 #[.agg #[.int .i64 k,.int .i64 0,.int .u64 0,.int .u64 0,.int .u64 0,.string ByteArray.empty,.string ByteArray.empty],.slice A n n] W (qpi HD W):=λA W hA=>by
  have h:=qm9 {blk0 with cls:=k} (zeros n) A n W hA (by omega) (by omega) (by omega) (by omega) (show ByteArray.empty.size<65536 by decide) (show ByteArray.empty.size<256 by decide) (show(0:Nat)<18446744073709551616 by decide) (show(0:Nat)<18446744073709551616 by decide) (show(0:Nat)<18446744073709551616 by decide);rw[hzl,<-hHD]at h;exact h
 have hdr:Hid (HD=qgj k):=hid (by rw[hHD,qgj,hn]);have HN:=hid hn;have hn500:n<=1000:=by omega
 have hsb:(((qa9 k:Nat):Int)==0)=false:=by rw[beq_eq_false_iff_ne];omega
 have HTH:=hid TH;have HZL:=hid hzl;obtain⟨sp,hsp⟩:∃sp,sp=((qa9 k:Nat):Int):=⟨_,rfl⟩;clear TH hn hzl cs1 cs2 cs3 hHD;go_enter func268,ntmps268;go_wp2_with fail;refine(qaw k w).mono ?_;rintro e w1⟨rfl,rfl⟩;rw[<-hsp]at hsb ⊢;go_wp2_with fail;refine(qo0 k w1).mono ?_;rintro e w2⟨rfl,rfl⟩;rw[<-HN.out];obtain⟨w3,MK,R3,B3,S3⟩:=qnd n (by omega) w2;have HR3:=hid R3;have HB3:=hid B3;clear R3 B3 S3;go_wp2_with fail;refine(HTH.out (some ⟨w2.heap.size,0,none⟩) w3 HR3.out.arr0).mono ?_;rintro e w4⟨A,c,rfl,hown,hb⟩;have HB4:=hid (HB3.out.trans (hb.mono HB3.out.size));have HO4:=hid (hown.lower HB3.out.size);clear hown hb;go_wp2_with fail;go_ret;rw[<-hdr.out];exact⟨A,c,rfl,HO4.out,HB4.out⟩
theorem Arr.byteAt{w:World}{B:Nat}{A:Option Addr}{l:List UInt8}(h:Arr byE 1 w B A l){i:Nat}(hi:i<l.length):∃b off,A=some ⟨b,off,none⟩/\b<B/\w.cell? ⟨b,off+i,none⟩=some (.int .u8 ((l.getD i 0).toNat:Int)):=by
 obtain⟨b,off,h1,h2,h3⟩:=h.byte1 hi;exact⟨b,off,h1,h2,by rw[List.getD_eq_getElem?_getD,List.getElem?_eq_getElem hi];exact h3⟩
def qxt(ok:Bool)(x1 x2:Nat)(w:World)(e:Ending)(w':World):Prop:=e=.returned (if ok=true then .tuple #[.int .i64 (x1:Int),.int .i64 (x2:Int),.bool true]else .tuple #[.int .i64 0,.int .i64 0,.bool false])/\Below w.heap.size w w'
def quo(l:List UInt8):World->Ending->World->Prop:=qxt (qf7 l) (l.getD 1 0).toNat (l.getD 2 0).toNat
theorem qzn(l:List UInt8)(A:Option Addr)(c:Nat)(w:World)(hA:Arr byE 1 w w.heap.size A l)(hl:l.length=64)(_hc:l.length<=c):Calls prog 128 #[.slice A 64 c] w (quo l w):=by
 obtain⟨b,off,hA1,hB,k0⟩:=hA.byteAt (i:=0) (by omega);obtain⟨b',off',hA2,_,k1⟩:=hA.byteAt (i:=1) (by omega);obtain⟨b'',off'',hA3,_,k2⟩:=hA.byteAt (i:=2) (by omega);rw[hA1]at hA2 hA3;cases hA2
 cases hA3
 subst hA1;rw[Nat.add_zero]at k0;have HL:=hid hl;have HOKD:=hid (show qf7 l=(decide (l.length=64)&&decide ((l.getD 0 0).toNat=1)&&decide (qa9 ((l.getD 1 0).toNat:Int)≠0)&&decide ((l.getD 2 0).toNat<=3))from rfl);clear hA hl;obtain⟨x0,hx0⟩:∃x,x=(l.getD 0 0).toNat:=⟨_,rfl⟩;obtain⟨x1,hx1⟩:∃x,x=(l.getD 1 0).toNat:=⟨_,rfl⟩;obtain⟨x2,hx2⟩:∃x,x=(l.getD 2 0).toNat:=⟨_,rfl⟩;have hb1:x1<256:=by rw[hx1];exact UInt8.toNat_lt _
 have hb2:x2<256:=by rw[hx2];exact UInt8.toNat_lt _
 unfold quo;rw[<-hx0]at k0 HOKD;rw[<-hx1]at k1 HOKD ⊢;rw[<-hx2]at k2 HOKD ⊢;obtain⟨ok,hok⟩:∃ok,ok=qf7 l:=⟨_,rfl⟩;rw[<-hok]at HOKD ⊢;clear hx0 hx1 hx2 hok;have HOK:Hid (ok=(decide (x0=1)&&decide (qa9 (x1:Int)≠0)&&decide (x2<=3))):=hid (by rw[HOKD.out,HL.out];simp);clear HOKD;have w1:IntKind.i64.wrap (x1:Int)=(x1:Int):=Go.IntWalk.i64_in _ (by omega);have w2:IntKind.i64.wrap (x2:Int)=(x2:Int):=Go.IntWalk.i64_in _ (by omega);by_cases h0:x0=1
 · subst h0
   rw[show((1:Nat):Int)=1 from rfl]at k0;by_cases h1:qa9 (x1:Int)=0
   · have HE:Hid (ok=false):=hid (by rw[HOK.out];simp[h1])
     have h1i:((qa9 (x1:Int):Nat):Int)=0:=by omega
     go_enter func128,ntmps128;go_wp2_with fail;refine(qaw x1 w).mono ?_;rintro e w3⟨rfl,rfl⟩;rw[h1i];go_wp2_with fail;refine bodyPost_ret (v:=.tuple #[.int .i64 0,.int .i64 0,.bool false]) (by simp[results,results128]) rfl ⟨by rw[HE.out];rfl,Below.refl _ _⟩
   · have hsb:(((qa9 (x1:Int):Nat):Int)==0)=false:=by rw[beq_eq_false_iff_ne];omega
     obtain⟨sp,hsp⟩:∃sp,sp=((qa9 (x1:Int):Nat):Int):=⟨_,rfl⟩;have hsn:¬sp=0:=by omega
     by_cases h2:x2<=3
     · have HE:Hid (ok=true):=hid (by rw[HOK.out];simp[h1,h2])
       have h2i:(x2:Int)<=3:=by omega
       have h2d:decide ((3:Int)<(x2:Int))=false:=decide_eq_false (by omega);clear h1;go_enter func128,ntmps128;go_wp2_with fail;refine(qaw x1 w).mono ?_;rintro e w3⟨rfl,rfl⟩;rw[<-hsp]at hsb ⊢;have x1u:IntKind.u8.wrap (x1:Int)=(x1:Int):=by rw[show IntKind.u8.wrap (x1:Int)=(x1:Int)%256 by simp[IntKind.wrap,IntKind.signed,IntKind.bits]];omega
       go_wp2_with fail;all_goals first|(exfalso;omega)|skip
       go_quiet (fail);go_wp2_with fail;refine bodyPost_ret (v:=.tuple #[.int .i64 (x1:Int),.int .i64 (x2:Int),.bool true]) (by simp[results,results128]) rfl ⟨by rw[HE.out];rfl,(by repeat(first|exact Below.refl _ _|assumption|refine Below.drew ?_|refine qa1 ?_ _|refine Below.alloc ?_ (by first|omega|simp <;> omega) _|refine Below.setCell ?_ (by first|omega|simp <;> omega) _))⟩
     · have HE:Hid (ok=false):=hid (by rw[HOK.out];simp[h2])
       have h2i:(3:Int)<(x2:Int):=by omega
       clear h1;go_enter func128,ntmps128;go_wp2_with fail;refine(qaw x1 w).mono ?_;rintro e w3⟨rfl,rfl⟩;rw[<-hsp]at hsb ⊢;go_wp2_with fail;refine bodyPost_ret (v:=.tuple #[.int .i64 0,.int .i64 0,.bool false]) (by simp[results,results128]) rfl ⟨by rw[HE.out];rfl,Below.refl _ _⟩
 · have HE:Hid (ok=false):=hid (by rw[HOK.out];simp[h0])
   have h0i:¬(x0:Int)=1:=by omega
   have h0b:((x0:Int)==1)=false:=by rw[beq_eq_false_iff_ne];exact h0i
   go_enter func128,ntmps128;go_wp2_with fail;refine bodyPost_ret (v:=.tuple #[.int .i64 0,.int .i64 0,.bool false]) (by simp[results,results128]) rfl ⟨by rw[HE.out];rfl,Below.refl _ _⟩
end
section
open Go.RowKit
theorem qh6(l:List UInt8):(strB l).size=l.length:=by simp[strB,ByteArray.size]
theorem qkg{w:World}{B:Nat}{A:Option Addr}{l:List UInt8}(h:Arr byE 1 w B A l)(hne:l≠ [])(cap:Nat):(convert 86 9 (.slice A l.length cap)).run prog w=.ok (.string (strB l)) w:=by
 rcases h with h0|⟨b,off,rfl,_,hc⟩
 · exact absurd h0 hne
 have hb:Lib.Bytes w b off (strB l):=λi hi=>by
  have hi':i<l.length:=by rwa [qh6]at hi
  have:=hc i hi' 0 _ rfl;rw[Nat.mul_one,Nat.add_zero]at this;rw[this];rfl
 have:=Lib.run_convert_whole (P:=prog) w 86 5 9 underlying86 underlying5 underlying9 b off _ hb cap;rwa [qh6]at this
theorem qg7(l:List UInt8):∀n,64*n<=l.length->(qbm l n).length<=63*n
 |0,_=>by simp[qbm]
 |1,h=>by simp[qbm];omega
 |n+2,h=>by
  have:=qg7 l (n+1) (by omega)
  rw[qbm,List.length_append,List.length_drop,List.length_take,List.length_drop]
  omega
theorem qj9(l:List UInt8):∀n,1<=n->64*n<=l.length->28<=(qbm l n).length
 |1,_,h=>by rw[qbm,List.length_drop,List.length_take];omega
 |n+2,_,h=>by
  have:=qj9 l (n+1) (by omega) (by omega)
  rw[qbm,List.length_append]
  omega
def qxm(s:ByteArray)(w:World)(e:Ending)(w':World):Prop:=e=.returned (.string s)/\Below w.heap.size w w'
theorem qtw(l:List UInt8)(n:Nat)(A:Option Addr)(c:Nat)(w:World)(hA:Arr byE 1 w w.heap.size A l)(hn:1<=n)(hl:l.length=64*n)(hn8:n<=1000)(hc:l.length<=c)(hm:c<=9223372036854775807):Calls prog 131 #[.slice A l.length c] w (qxm (strB (qbm l n)) w):=by
 have HA:=hid hA;have HL:=hid hl;obtain⟨b,off,rfl,hB, -⟩:=hA.byteAt (i:=0) (by omega);have hl64:(64:Int)<=(l.length:Int):=by omega
 have hc64:(64:Int)<=(c:Int):=by omega
 have hc36:¬c=36:=by omega
 have hlc:(l.length:Int)<=(c:Int):=by omega
 have A0:Arr byE 1 w w.heap.size (some ⟨b,off+36,none⟩) ((l.drop 36).take 28):=by
  have:=(hA.drop (m:=36) (c:=c) (by omega) hc).take 28;rw[if_neg hc36]at this;simpa[Addr.add]using this
 have AK:∀k,1<=k->k<n->Arr byE 1 w w.heap.size (some ⟨b,off+(64*k+1),none⟩) (((l.drop (64*k)).take 64).drop 1):=λk hk1 hk=>by
  have:=(hA.drop (m:=64*k+1) (c:=c) (by omega) hc).take 63;rw[if_neg (by omega)]at this;have e:((l.drop (64*k)).take 64).drop 1=(l.drop (64*k+1)).take 63:=by rw[List.drop_take,List.drop_drop]
  rw[e];simpa[Addr.add]using this
 have e1:qbm l 1=(l.drop 36).take 28:=by rw[qbm,List.drop_take]
 have HA0:=hid A0;have HAK:=hid AK;have HE1:=hid e1;have hl28:((l.drop 36).take 28).length=28:=by rw[List.length_take,List.length_drop];omega
 have HL28:=hid hl28;clear hA A0 e1 hl hl28 AK;go_enter func131,ntmps131;go_wp2_with(at_builtin;refine qdw (l:=[]) (m:=(l.drop 36).take 28) (A:=some ⟨w.heap.size,0,none⟩) (c:=0) (lo:=w.heap.size) _ rfl (.tmp 5) (.tmp 7) rfl (by simp[Act.eval]) (Own.zero) (A2:=some ⟨b,off+36,none⟩) (c-36) (by rw[HL28.out];simp[Act.eval]) (HA0.out.below (by repeat(first|exact Below.refl _ _|assumption|refine Below.drew ?_|refine qa1 ?_ _|refine Below.alloc ?_ (by first|omega|simp <;> omega) _|refine Below.setCell ?_ (by first|omega|simp <;> omega) _))) (by rw[HL28.out];simp) (by simp) ?_;intro A1 c1 w1 hown1 hgr1 hloc1);have b1:Below w.heap.size w w1:=((Below.refl _ _).alloc (Nat.le_refl _) _).grown hgr1 (by simp) (λk hk=>by simp[qa8]at hk);have HB1:=hid b1;have HO1:Hid (Own byE 5 1 w1 w.heap.size A1 c1 ((l.drop 36).take 28)):=hid (by simpa using hown1);clear b1 hown1 hgr1 hloc1;go_loopw [3,4] (λv3 v4 wr=>∃(k:Nat) (A':Option Addr) (c':Nat) (N:List UInt8),1<=k/\k<=n/\v4=.int .i64 ((64*k:Nat):Int)/\v3=.slice A' N.length c'/\Hid (N=qbm l k)/\Own byE 5 1 wr w.heap.size A' c' N/\Below w.heap.size w wr) (λ_ v4 _=>l.length-(intOf v4).toNat)
 case atStart=>exact⟨1,A1,c1,(l.drop 36).take 28,Nat.le_refl _,hn,rfl,by first|(rw[HL28.out];done)|(have h28:=HL28.out;simp at h28;simp[h28];done)|(rw[HL28.out];rfl),hid HE1.out.symm,HO1.out,HB1.out⟩
 case round =>
  obtain⟨k,A',c',N,hk1,hkn,rfl,rfl,HN,hown,hb⟩:=hrel;have HO:=hid hown;have HB:=hid hb;have hwz:=hb.size;have hNl:Hid (N.length<=63*k):=hid (by rw[HN.out];exact qg7 l k (by have:=HL.out;omega));by_cases hlt:k<n
  · obtain⟨q,hq⟩:∃q,q=64*k:=⟨_,rfl⟩
    rw[<-hq];have hql:q+64<=l.length:=by have:=HL.out;omega
    have h1:(q:Int)<(l.length:Int):=by omega
    have h2:(q:Int)+64<=(l.length:Int):=by omega
    have h3:(q:Int)+64<=(c:Int):=by omega
    have h4:(0:Int)<=(q:Int)+1:=by omega
    have h5:(q:Int)+1<=(q:Int)+64:=by omega
    have i1:IntKind.i64.wrap ((q:Int)+1)=(q:Int)+1:=Go.IntWalk.i64_in _ (by omega);have i2:IntKind.i64.wrap ((q:Int)+64)=(q:Int)+64:=Go.IntWalk.i64_in _ (by omega);have t1:((q:Int)+1).toNat=q+1:=by omega
    have t2:((q:Int)+64).toNat=q+64:=by omega
    have hcq:¬c=q+1:=by omega
    have hl63:(((l.drop (64*k)).take 64).drop 1).length=63:=by rw[List.length_drop,List.length_take,List.length_drop];omega
    have HL63:=hid hl63;have HKK:=hid (HAK.out k hk1 hlt);rw[<-hq]at HKK HL63;have HQ:=hid hq;have hw1:w.heap.size<=wr.heap.size:=hwz;have HNX:Hid (qbm l (k+1)=N++((l.drop q).take 64).drop 1):=hid (by
     obtain⟨j,rfl⟩:∃j,k=j+1:=⟨k-1,by omega⟩
     rw[qbm,<-HN.out,hq])
    clear hown hb hl63 hq;go_wp2_with(at_builtin;refine qdw (l:=N) (m:=((l.drop q).take 64).drop 1) (A:=A') (c:=c') (lo:=w.heap.size) _ rfl (.tmp 15) (.tmp 21) rfl (by simp[Act.eval]) HO.out (A2:=some ⟨b,off+(q+1),none⟩) (c-(q+1)) (by rw[HL63.out];simp[Act.eval]) (HKK.out.below HB.out) (by rw[HL63.out];have:=hNl.out;omega) hw1 ?_;intro A5 c5 w5 hown5 hgr5 hloc5);have hX:(((l.drop q).take 64).drop 1).length=63:=HL63.out;refine⟨⟨k+1,A5,c5,N++((l.drop q).take 64).drop 1,by omega,by omega,?_,?_,hid HNX.out.symm,hown5,?_⟩,?_⟩
    · rw[show((64*(k+1):Nat):Int)=(q:Int)+64 by rw[HQ.out];omega]
    · rw[List.length_append,hX,show min 64 (l.length-q)-1=63 by omega]
    · exact qck HO.out hgr5 HB.out hw1
    · simp[intOf];omega
  · obtain rfl:k=n:=by omega
    have HD:Hid (qbm l k≠ []):=hid (λh0=>by have:=qj9 l k hn (by have:=HL.out;omega);rw[h0]at this;simp at this);have hlk:((64*k:Nat):Int)=(l.length:Int):=by have:=HL.out;omega
    rw[hlk];have CV:=λcap=>qkg (HO.out.arr qbn) (by rw[HN.out];exact HD.out) cap
    clear hown hb hlk;go_wp2_with fail;go_ret;exact⟨by rw[<-HN.out];rfl,HB.out⟩
end
end Go.Proofs.YtecikkjbnkhhkaaGreat
