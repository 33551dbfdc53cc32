/- A part of the walk. -/
import Derived.Test.YtecikkjbnkhhkaaGreatP13
import Derived.Test.YtecikkjbnkhhkaaGreatP19
namespace Go.Proofs.YtecikkjbnkhhkaaGreat
open _root_.Go.Proofs.Tryz
set_option maxHeartbeats 4000000
set_option maxRecDepth 100000
open Go.RowKit
theorem qx6:(prog.info? 203).map (·.size)=some 7:=by kernel_rfl
theorem qzm:∃d,prog.underlying 203=some d/\d.isRow=true:=⟨_,underlying203,rfl⟩
theorem qew{fn:Func}{p t:Tmp}(h:fn.results=#[.cell p 203,.tmp t])(tmps:Array Value)(w:World)(b:Nat)(x:BlkC)(v:Value)(hp:tmps.getD p undef=.pointer (some ⟨b,0,none⟩))(ht:tmps.getD t undef=v)
 (hb:w.heap[b]? =some (.cells x.enc.toArray 203 (0,0))):(results fn tmps).run prog w=.ok (.tuple #[x.v,v]) w:=by
 obtain⟨d,h1,h2⟩:=qzm;rw[qdp h tmps w b x.enc d hp (qb5 hb) h1 h2 qx6,ht];rfl
theorem qr0{w:World}{b:Nat}{t:TypeId}{a0 a1 a2 a3 a4 a5 a6 b0 b1 b2 b3 b4 b5 b6:Value}(h:w.heap[b]? =some (.cells #[a0,a1,a2,a3,a4,a5,a6] t (0,0))):(((((((w.setCell ⟨b,0,none⟩ b0).setCell ⟨b,1,none⟩ b1).setCell ⟨b,2,none⟩ b2).setCell ⟨b,3,none⟩ b3).setCell ⟨b,4,none⟩ b4).setCell ⟨b,5,none⟩ b5).setCell ⟨b,6,none⟩ b6).heap[b]? =some (.cells #[b0,b1,b2,b3,b4,b5,b6] t (0,0)):=by
 have h0:(w.setCell ⟨b,0,none⟩ b0).heap[b]? =some (.cells #[b0,a1,a2,a3,a4,a5,a6] t (0,0)):=heap_setCell_same _ b 0 _ _ b0 h;generalize (w.setCell ⟨b,0,none⟩ b0)=w0 at h0 ⊢;have h1:(w0.setCell ⟨b,1,none⟩ b1).heap[b]? =some (.cells #[b0,b1,a2,a3,a4,a5,a6] t (0,0)):=heap_setCell_same _ b 1 _ _ b1 h0;generalize (w0.setCell ⟨b,1,none⟩ b1)=w1 at h1 ⊢;have h2:(w1.setCell ⟨b,2,none⟩ b2).heap[b]? =some (.cells #[b0,b1,b2,a3,a4,a5,a6] t (0,0)):=heap_setCell_same _ b 2 _ _ b2 h1;generalize (w1.setCell ⟨b,2,none⟩ b2)=w2 at h2 ⊢;have h3:(w2.setCell ⟨b,3,none⟩ b3).heap[b]? =some (.cells #[b0,b1,b2,b3,a4,a5,a6] t (0,0)):=heap_setCell_same _ b 3 _ _ b3 h2;generalize (w2.setCell ⟨b,3,none⟩ b3)=w3 at h3 ⊢;have h4:(w3.setCell ⟨b,4,none⟩ b4).heap[b]? =some (.cells #[b0,b1,b2,b3,b4,a5,a6] t (0,0)):=heap_setCell_same _ b 4 _ _ b4 h3;generalize (w3.setCell ⟨b,4,none⟩ b4)=w4 at h4 ⊢;have h5:(w4.setCell ⟨b,5,none⟩ b5).heap[b]? =some (.cells #[b0,b1,b2,b3,b4,b5,a6] t (0,0)):=heap_setCell_same _ b 5 _ _ b5 h4;generalize (w4.setCell ⟨b,5,none⟩ b5)=w5 at h5 ⊢;have h6:(w5.setCell ⟨b,6,none⟩ b6).heap[b]? =some (.cells #[b0,b1,b2,b3,b4,b5,b6] t (0,0)):=heap_setCell_same _ b 6 _ _ b6 h5;exact h6
def decV:Option BlkC->Value
 |some x=>.tuple #[x.v,.bool true]
 |none=>.tuple #[blk0.v,.bool false]
def qpg(r:Option BlkC)(w:World)(e:Ending)(w':World):Prop:=e=.returned (decV r)/\Below w.heap.size w w'
theorem set7{B:Nat}{w w':World}{b:Nat}(h:Below B w w')(hb:B<=b)(u0 u1 u2 u3 u4 u5 u6:Value):Below B w (((((((w'.setCell ⟨b,0,none⟩ u0).setCell ⟨b,1,none⟩ u1).setCell ⟨b,2,none⟩ u2).setCell ⟨b,3,none⟩ u3).setCell ⟨b,4,none⟩ u4).setCell ⟨b,5,none⟩ u5).setCell ⟨b,6,none⟩ u6):=
 ((((((h.setCell hb _).setCell hb _).setCell hb _).setCell hb _).setCell hb _).setCell hb _).setCell hb _
theorem qkm(l:List UInt8)(A:Option Addr)(c:Nat)(w:World)(hl:l.length<64):Calls prog 97 #[.slice A l.length c] w (qpg none w):=by
 have hli:(l.length:Int)<64:=by omega
 go_enter func97,ntmps97;go_upto_region 1 with fail;generalize hw1:World.alloc w _=w1;have b1:Below w.heap.size w w1:=by rw[<-hw1];exact(Below.refl _ _).alloc (Nat.le_refl _) _
 have R1:w1.heap[w.heap.size]? =some (.cells #[.int .i64 0,.int .i64 0,.int .u64 0,.int .u64 0,.int .u64 0,.string ByteArray.empty,.string ByteArray.empty] 203 (0,0)):=by rw[<-hw1];exact(qa2 _ _ _).trans (if_pos rfl)
 have HB1:=hid b1;have HR1:=hid R1;have q0:=cell_of_row w1 _ 0 _ _ _ R1;have q1:=cell_of_row w1 _ 1 _ _ _ R1;have q2:=cell_of_row w1 _ 2 _ _ _ R1;have q3:=cell_of_row w1 _ 3 _ _ _ R1;have q4:=cell_of_row w1 _ 4 _ _ _ R1;have q5:=cell_of_row w1 _ 5 _ _ _ R1;have q6:=cell_of_row w1 _ 6 _ _ _ R1;have f0:=frozen_of_row w1 _ 0 _ _ R1;have f1:=frozen_of_row w1 _ 1 _ _ R1;have f2:=frozen_of_row w1 _ 2 _ _ R1;have f3:=frozen_of_row w1 _ 3 _ _ R1;have f4:=frozen_of_row w1 _ 4 _ _ R1;have f5:=frozen_of_row w1 _ 5 _ _ R1;have f6:=frozen_of_row w1 _ 6 _ _ R1;have hl1:=qa0 R1;have HFIN:=hid (qr0 (b0:=.int .i64 0) (b1:=.int .i64 0) (b2:=.int .u64 0) (b3:=.int .u64 0) (b4:=.int .u64 0) (b5:=.string ByteArray.empty) (b6:=.string ByteArray.empty) R1);clear hw1 b1 R1;go_wp2_with fail;refine bodyPost_ret (v:=.tuple #[blk0.v,.bool false]) (qew results97 _ _ w.heap.size blk0 _ (by simp) (by simp) HFIN.out) rfl ⟨rfl,?_⟩;exact set7 HB1.out (Nat.le_refl _) _ _ _ _ _ _ _
theorem qac{B:Nat}{w w':World}(h:Below B w w'){b:Nat}(hb:b<B){x:Obj}(hx:w.heap[b]? =some x):w'.heap[b]? =some x:=(h.block b hb).trans hx
theorem qe0(l:List UInt8)(a b:Nat):(strB l).extract a b=strB ((l.drop a).take (b-a)):=by
 apply ByteArray.ext;simp[strB,ByteArray.data_extract,List.extract_eq_take_drop]
theorem qvf{a b:List UInt8}(h:strB a=strB b):a=b:=by
 have:=congrArg (λs:ByteArray=>s.data.toList) h;simpa[strB]using this
theorem qi0(l:List UInt8)(A:Option Addr)(c:Nat)(w:World)(hA:Arr byE 1 w w.heap.size A l)(hl:l.length<=1000000)(hc:l.length<=c)(hm:c<=9223372036854775807):Calls prog 97 #[.slice A l.length c] w (qpg (decB l) w):=by
 by_cases h64:l.length<64
 · have:=qkm l A c w h64
   rwa [show decB l=none by rw[decB,if_pos (Or.inl h64)]]
 have hli:¬(l.length:Int)<64:=by omega
 have hli2:(64:Int)<=(l.length:Int):=by omega
 have hli3:(64:Int)<=(c:Int):=by omega
 have hA64:Arr byE 1 w w.heap.size A (l.take 64):=hA.take 64;have hl64:(l.take 64).length=64:=by rw[List.length_take];omega
 have g1:(l.take 64).getD 1 0=l.getD 1 0:=by simp[List.getD_eq_getElem?_getD]
 have g2:(l.take 64).getD 2 0=l.getD 2 0:=by simp[List.getD_eq_getElem?_getD]
 have hA1:=hid hA;have hAH:=hid hA64;have HL64:=hid hl64;have G1:=hid g1;have G2:=hid g2;clear hA hA64 hl64 g1 g2;go_enter func97,ntmps97;go_upto_region 1 with fail;generalize hw1:World.alloc w _=w1;have b1:Below w.heap.size w w1:=by rw[<-hw1];exact(Below.refl _ _).alloc (Nat.le_refl _) _
 have R1:w1.heap[w.heap.size]? =some (.cells #[.int .i64 0,.int .i64 0,.int .u64 0,.int .u64 0,.int .u64 0,.string ByteArray.empty,.string ByteArray.empty] 203 (0,0)):=by rw[<-hw1];exact(qa2 _ _ _).trans (if_pos rfl)
 have hs1:w1.heap.size=w.heap.size+1:=by rw[<-hw1];simp
 have HB1:=hid b1;have HR1:=hid R1;have HA64:Hid (Arr byE 1 w1 w1.heap.size A (l.take 64)):=hid ((hAH.out.below b1).more b1.size);clear hw1 b1 R1;go_upto_region 3 with fail;go_wp2_with fail;refine(qzn (l.take 64) _ c w1 HA64.out HL64.out (by rw[HL64.out];omega)).mono ?_;rintro e wZ⟨rfl,hbZ⟩;rw[G1.out,G2.out];have HHD:Hid (decB l=if qf7 (l.take 64)=true/\l.length=qa9 ((l.getD 1 0).toNat:Int)*64 then(if (qbm l (l.length/64)).length<(l.getD 3 0).toNat+getL l 4 2 then none else if mayB (parsed l)=true/\encB (parsed l)=l then some (parsed l)else none)else none):=hid (by
  rw[decB]
  by_cases h1:qf7 (l.take 64)=true
  · by_cases h2:l.length=qa9 ((l.getD 1 0).toNat:Int)*64
    · rw[if_neg (show ¬(l.length<64\/qf7 (l.take 64)=false\/l.length≠qa9 ((l.getD 1 0).toNat:Int)*64)from λh=>h.elim h64 (λh=>h.elim (λh=>by simp[h1]at h) (λh=>h h2))),if_pos (And.intro h1 h2)]
    · rw[if_pos (Or.inr (Or.inr h2)),if_neg (λh=>h2 h.2)]
  · rw[if_pos (Or.inr (Or.inl (by simpa using h1))),if_neg (λh=>h1 h.1)])
 generalize qf7 (l.take 64)=ok at *;generalize hx1:(l.getD 1 0).toNat=x1 at *;generalize hx2:(l.getD 2 0).toNat=x2 at *;have HX1:=hid hx1;have HX2:=hid hx2;clear hx2;clear hx1;have HB:Hid (Below w.heap.size w wZ):=hid (HB1.out.trans (hbZ.mono (by omega)));have RZ:=qac hbZ (b:=w.heap.size) (by omega) HR1.out;have HRZ:=hid RZ;have HFIN:=hid (qr0 (b0:=.int .i64 0) (b1:=.int .i64 0) (b2:=.int .u64 0) (b3:=.int .u64 0) (b4:=.int .u64 0) (b5:=.string ByteArray.empty) (b6:=.string ByteArray.empty) RZ);have q0:=cell_of_row wZ _ 0 _ _ _ RZ;have q1:=cell_of_row wZ _ 1 _ _ _ RZ;have q2:=cell_of_row wZ _ 2 _ _ _ RZ;have q3:=cell_of_row wZ _ 3 _ _ _ RZ;have q4:=cell_of_row wZ _ 4 _ _ _ RZ;have q5:=cell_of_row wZ _ 5 _ _ _ RZ;have q6:=cell_of_row wZ _ 6 _ _ _ RZ;have f0:=frozen_of_row wZ _ 0 _ _ RZ;have f1:=frozen_of_row wZ _ 1 _ _ RZ;have f2:=frozen_of_row wZ _ 2 _ _ RZ;have f3:=frozen_of_row wZ _ 3 _ _ RZ;have f4:=frozen_of_row wZ _ 4 _ _ RZ;have f5:=frozen_of_row wZ _ 5 _ _ RZ;have f6:=frozen_of_row wZ _ 6 _ _ RZ;have hl1:=qa0 RZ;have hsZ:w1.heap.size<=wZ.heap.size:=hbZ.size;clear hbZ RZ;cases ok
 · have HN:Hid (decB l=none):=hid (by rw[HHD.out,if_neg (λh=>by simpa using h.1)])
   clear HHD;go_wp2_with fail;rw[HN.out];refine bodyPost_ret (v:=.tuple #[blk0.v,.bool false]) (qew results97 _ _ w.heap.size blk0 _ (by simp) (by simp) HFIN.out) rfl ⟨?_,?_⟩
   · rfl
   · exact set7 HB.out (Nat.le_refl _) _ _ _ _ _ _ _
 rw[if_pos rfl];by_cases hlen:(l.length:Int)=((qa9 (x1:Int)*64:Nat):Int);rotate_left
 · have HN:Hid (decB l=none):=hid (by rw[HHD.out,if_neg (λh=>hlen (by rw[h.2]))])
   have hsp:qa9 (x1:Int)<=8:=by unfold qa9;repeat(first|split|omega)
   have hlen2:¬(l.length:Int)=(qa9 (x1:Int):Int)*64:=by omega
   obtain⟨sp,hspe⟩:∃sp,qa9 (x1:Int)=sp:=⟨_,rfl⟩;rw[hspe]at hsp hlen2;have hneb:((l.length:Int) != (sp:Int)*64)=true:=by simp[bne_iff_ne,hlen2]
   have hspw:IntKind.i64.wrap ((sp:Int)*64)=(sp:Int)*64:=Go.IntWalk.i64_in _ (by omega);clear HHD hlen HX1 G1 G2 HL64 HA64 hsZ;go_wp2_with fail;refine(qaw _ wZ).mono ?_;rintro e wS⟨rfl,rfl⟩;rw[hspe];clear hspe;go_wp2_with fail;rw[HN.out];refine bodyPost_ret (v:=.tuple #[blk0.v,.bool false]) (qew results97 _ _ w.heap.size blk0 _ (by simp) (by simp) HFIN.out) rfl ⟨?_,?_⟩
   · rfl
   · exact set7 HB.out (Nat.le_refl _) _ _ _ _ _ _ _
 have hsp8:qa9 (x1:Int)<=8:=by unfold qa9;repeat(first|split|omega)
 have hsp1:1<=qa9 (x1:Int):=by omega
 obtain⟨n,hn⟩:∃n,qa9 (x1:Int)=n:=⟨_,rfl⟩;rw[hn]at hlen hsp8 hsp1;have hln:l.length=n*64:=by omega
 have hlen2:(l.length:Int)=(n:Int)*64:=by omega
 have hdiv:l.length/64=n:=by omega
 have HN1:Hid (decB l=if (qbm l n).length<(l.getD 3 0).toNat+getL l 4 2 then none else if mayB (parsed l)=true/\encB (parsed l)=l then some (parsed l)else none):=hid (by rw[HHD.out,hdiv,if_pos ⟨rfl,by rw[hn,hln]⟩]);have HLN:=hid hln;have HDIV:=hid hdiv;obtain⟨b,off,rfl,hbw,c3w⟩:=hA1.out.byteAt (i:=3) (by omega);have HLB:Hid (Arr byE 1 wZ wZ.heap.size (some ⟨b,off,none⟩) l):=hid ((hA1.out.below HB.out).more HB.out.size);have c3:wZ.cell? ⟨b,off+3,none⟩=some (.int .u8 ((l.getD 3 0).toNat:Int)):=(HB.out.cell hbw).trans c3w;have gl2:getL l 4 2<65536:=qnp l 4 2;have i1:IntKind.i64.wrap ((getL l 4 2:Nat):Int)=((getL l 4 2:Nat):Int):=Go.IntWalk.i64_in _ (by omega);have x3:(l.getD 3 0).toNat<256:=(l.getD 3 0).toNat_lt;have x3i:IntKind.i64.wrap ((l.getD 3 0).toNat:Int)=((l.getD 3 0).toNat:Int):=Go.IntWalk.i64_in _ (by omega);have h3l:(3:Int)<(l.length:Int):=by omega
 clear HHD hlen hln hdiv G1 G2 HL64 HA64 hsZ;generalize hk:(l.getD 3 0).toNat=k at *;generalize hm4:getL l 4 2=m at *;have HK:=hid hk;have HM:=hid hm4;clear hk hm4;go_wp2_with fail;refine(qaw _ wZ).mono ?_;rintro e wS⟨rfl,rfl⟩;rw[hn];have hneb:((l.length:Int) != (n:Int)*64)=false:=by simp[hlen2]
 have hneb0:True:=trivial;have hnw:IntKind.i64.wrap ((n:Int)*64)=(n:Int)*64:=Go.IntWalk.i64_in _ (by omega);clear hn hlen2;go_wp2_with fail;clear hnw hneb hneb0;have GET:=λq=>qgw l (some ⟨b,off,none⟩) c 4 2 (wS.drewN q) (HLB.out.below (qa1 (Below.refl _ _) q)) (by omega) (by omega) (by omega) hl hc hm
 rw[HM.out]at GET;go_quiet (exact Calls.quiet_of_same (GET _));clear GET;have BQ:Below wS.heap.size wS (wS.drewN nq):=qa1 (Below.refl _ _) nq;have HQ:∀k:Nat,(wS.drewN nq).heap[k]? =wS.heap[k]? :=λ_=>rfl
 have hsq:(wS.drewN nq).heap.size=wS.heap.size:=rfl;generalize World.drewN wS nq=wq at *;have RQ:wq.heap[w.heap.size]? =_:=(HQ _).trans HRZ.out;have HBQ:Hid (Below w.heap.size w wq):=hid (HB.out.trans (BQ.mono HB.out.size));have HLQ:Hid (Arr byE 1 wq wq.heap.size (some ⟨b,off,none⟩) l):=hid (by rw[hsq];exact HLB.out.below BQ);have HRQ:=hid RQ;clear q0 q1 q2 q3 q4 q5 q6 f0 f1 f2 f3 f4 f5 f6 HQ BQ HFIN c3 HLB RQ;clear hA1 hAH c3w;generalize (some ⟨b,off,none⟩:Option Addr)=A at *;go_wp2_with fail;refine(qtw l n A c wq HLQ.out hsp1 (by rw[HLN.out];omega) (by omega) hc hm).mono ?_;rintro e wZ⟨rfl,hbZ⟩;have HSZ:=qh6 (qbm l n);generalize hs:strB (qbm l n)=s at *;have HBZ:Hid (Below w.heap.size w wZ):=hid (HBQ.out.trans (hbZ.mono HBQ.out.size));have RZ:=qac hbZ (b:=w.heap.size) (by have:=qa0 HRQ.out;omega) HRQ.out;have HLZ:Hid (Arr byE 1 wZ wZ.heap.size A l):=hid ((HLQ.out.below hbZ).more hbZ.size);have HRZ2:=hid RZ;have hl2:=qa0 RZ;have hdl:=qg7 l n (by rw[HLN.out];omega);have hss:s.size<=63*n:=by rw[HSZ];exact hdl
 have HSS:=hid hs;have HSL:=hid HSZ;have skm:IntKind.i64.wrap ((k:Int)+(m:Int))=(k:Int)+(m:Int):=Go.IntWalk.i64_in _ (by omega);clear hbZ HBQ HRQ HLQ hs HSZ hdl hl1 hsq;by_cases hgt:s.size<k+m
 · have hgi:(s.size:Int)<(k:Int)+(m:Int):=by omega
   have HN:Hid (decB l=none):=hid (by rw[HN1.out,if_pos (by rw[<-HSL.out];exact hgt)]);have HFIN:=hid (qr0 (b0:=.int .i64 0) (b1:=.int .i64 0) (b2:=.int .u64 0) (b3:=.int .u64 0) (b4:=.int .u64 0) (b5:=.string ByteArray.empty) (b6:=.string ByteArray.empty) RZ);have q0:=cell_of_row wZ _ 0 _ _ _ RZ;have q1:=cell_of_row wZ _ 1 _ _ _ RZ;have q2:=cell_of_row wZ _ 2 _ _ _ RZ;have q3:=cell_of_row wZ _ 3 _ _ _ RZ;have q4:=cell_of_row wZ _ 4 _ _ _ RZ;have q5:=cell_of_row wZ _ 5 _ _ _ RZ;have q6:=cell_of_row wZ _ 6 _ _ _ RZ;have f0:=frozen_of_row wZ _ 0 _ _ RZ;have f1:=frozen_of_row wZ _ 1 _ _ RZ;have f2:=frozen_of_row wZ _ 2 _ _ RZ;have f3:=frozen_of_row wZ _ 3 _ _ RZ;have f4:=frozen_of_row wZ _ 4 _ _ RZ;have f5:=frozen_of_row wZ _ 5 _ _ RZ;have f6:=frozen_of_row wZ _ 6 _ _ RZ;clear RZ HN1 hgt;have HB:=HBZ;go_wp2_with fail;rw[HN.out];refine bodyPost_ret (v:=.tuple #[blk0.v,.bool false]) (qew results97 _ _ w.heap.size blk0 _ (by simp) (by simp) HFIN.out) rfl ⟨?_,?_⟩
   · rfl
   · exact set7 HB.out (Nat.le_refl _) _ _ _ _ _ _ _
 have hgi:¬(s.size:Int)<(k:Int)+(m:Int):=by omega
 have hk1:(k:Int)<=(s.size:Int):=by omega
 have hk2:(k:Int)+(m:Int)<=(s.size:Int):=by omega
 have hk3:(k:Int)<=(k:Int)+(m:Int):=by omega
 have HN2:Hid (decB l=if mayB (parsed l)=true/\encB (parsed l)=l then some (parsed l)else none):=hid (by rw[HN1.out,if_neg (by rw[<-HSL.out];exact hgt)]);have GET8:∀W,Below wZ.heap.size wZ W->_:=λW hW=>qgw l A c 8 8 W ((HLZ.out.below hW).more hW.size) (by omega) (by omega) (by omega) hl hc hm
 have GET16:∀W,Below wZ.heap.size wZ W->_:=λW hW=>qgw l A c 16 8 W ((HLZ.out.below hW).more hW.size) (by omega) (by omega) (by omega) hl hc hm
 have GET24:∀W,Below wZ.heap.size wZ W->_:=λW hW=>qgw l A c 24 8 W ((HLZ.out.below hW).more hW.size) (by omega) (by omega) (by omega) hl hc hm
 have HG8:=hid GET8;have HG16:=hid GET16;have HG24:=hid GET24;have hk0:(0:Int)<=(k:Int):=by omega
 have HPE:Hid (parsed l=⟨x1,x2,getL l 8 8,getL l 16 8,getL l 24 8,s.extract 0 k,s.extract k ((k:Int)+(m:Int)).toNat⟩):=hid (by
  have e1:s.extract 0 k=strB ((qbm l n).take k):=by rw[<-HSS.out,qe0];simp
  have e2:s.extract k ((k:Int)+(m:Int)).toNat=strB (((qbm l n).drop k).take m):=by rw[<-HSS.out,qe0,show((k:Int)+(m:Int)).toNat-k=m by omega]
  rw[e1,e2,parsed]
  simp only[HX1.out,HX2.out,HK.out,HM.out,HDIV.out])
 clear GET8 GET16 GET24 RZ HN1 hgt HSS HSL;go_wp2_with fail;go_cut [10] (λv10 wx=>v10=.pointer (some ⟨wZ.heap.size,0,none⟩)/\wx.heap[wZ.heap.size]? =some (.cells (parsed l).enc.toArray 203 (0,0))/\Below wZ.heap.size wZ wx)
 case first =>
  go_region_with (first|(go_at_call_of 130 (Value.int IntKind.i64 24);refine(HG24.out _ ?_).mono ?_;(repeat(first|with_reducible exact Below.refl _ _|with_reducible assumption|with_reducible refine Below.drew ?_|with_reducible refine qa1 ?_ _|with_reducible refine Below.alloc ?_ (by first|omega|simp <;> omega) _|with_reducible refine Below.setCell ?_ (by first|omega|simp <;> omega) _));rintro e w2⟨rfl,rfl⟩)|(go_at_call_of 130 (Value.int IntKind.i64 16);refine(HG16.out _ ?_).mono ?_;(repeat(first|with_reducible exact Below.refl _ _|with_reducible assumption|with_reducible refine Below.drew ?_|with_reducible refine qa1 ?_ _|with_reducible refine Below.alloc ?_ (by first|omega|simp <;> omega) _|with_reducible refine Below.setCell ?_ (by first|omega|simp <;> omega) _));rintro e w2⟨rfl,rfl⟩)|(go_at_call_of 130 (Value.int IntKind.i64 8);refine(HG8.out _ ?_).mono ?_;(repeat(first|with_reducible exact Below.refl _ _|with_reducible assumption|with_reducible refine Below.drew ?_|with_reducible refine qa1 ?_ _|with_reducible refine Below.alloc ?_ (by first|omega|simp <;> omega) _|with_reducible refine Below.setCell ?_ (by first|omega|simp <;> omega) _));rintro e w2⟨rfl,rfl⟩));all_goals(go_wp2_with fail;go_meet;exact⟨rfl,by rw[HPE.out];first|exact(qa2 _ _ _).trans (if_pos rfl)|exact((show ∀x:World,x.drew.heap=x.heap from λ_=>rfl) _ ▸ (qa2 _ _ _).trans (if_pos rfl)),(by repeat(first|exact Below.refl _ _|assumption|refine Below.drew ?_|refine qa1 ?_ _|refine Below.alloc ?_ (by first|omega|simp <;> omega) _|refine Below.setCell ?_ (by first|omega|simp <;> omega) _))⟩)
 obtain⟨rfl,hrow,hbc⟩:=hcut;have hxk:(parsed l).key.size<=1000000:=by rw[HPE.out];simp only[ByteArray.size_extract];omega
 have hxv:(parsed l).val.size<=1000000:=by rw[HPE.out];simp only[ByteArray.size_extract];omega
 clear HPE HK HM HX1 HX2;generalize parsed l=x at *;have RC:=qac hbc hl2 HRZ2.out;have hl3:=hbc.size;have HBC:Hid (Below w.heap.size w wc):=hid (HBZ.out.trans (hbc.mono HBZ.out.size));have HLC:Hid (Arr byE 1 wc wc.heap.size A l):=hid ((HLZ.out.below hbc).more hbc.size);have HRC:=hid RC;have HRX:=hid hrow;obtain⟨y0,y1,y2,y3,y4,y5,y6⟩:=BlkC.cells hrow;have hl4:=qa0 hrow;clear RC hrow hbc HRZ2 HBZ HLZ HG8 HG16 HG24;by_cases hmay:mayB x=true;rotate_left
 · have HN:Hid (decB l=none):=hid (by rw[HN2.out,if_neg (λh=>hmay h.1)])
   have hmay':mayB x=false:=by simpa using hmay
   clear HN2 hmay;go_wp2_with fail;refine(qr1 x wc hxk hxv hmay').mono ?_;rintro e wE⟨rfl,hbE⟩;have RZ:=qac hbE (by omega) HRC.out;have hB2:=hbE.size;have HB:Hid (Below w.heap.size w wE):=hid (HBC.out.trans (hbE.mono (by omega)));have HFIN:=hid (qr0 (b0:=.int .i64 0) (b1:=.int .i64 0) (b2:=.int .u64 0) (b3:=.int .u64 0) (b4:=.int .u64 0) (b5:=.string ByteArray.empty) (b6:=.string ByteArray.empty) RZ);have q0:=cell_of_row wE _ 0 _ _ _ RZ;have q1:=cell_of_row wE _ 1 _ _ _ RZ;have q2:=cell_of_row wE _ 2 _ _ _ RZ;have q3:=cell_of_row wE _ 3 _ _ _ RZ;have q4:=cell_of_row wE _ 4 _ _ _ RZ;have q5:=cell_of_row wE _ 5 _ _ _ RZ;have q6:=cell_of_row wE _ 6 _ _ _ RZ;have f0:=frozen_of_row wE _ 0 _ _ RZ;have f1:=frozen_of_row wE _ 1 _ _ RZ;have f2:=frozen_of_row wE _ 2 _ _ RZ;have f3:=frozen_of_row wE _ 3 _ _ RZ;have f4:=frozen_of_row wE _ 4 _ _ RZ;have f5:=frozen_of_row wE _ 5 _ _ RZ;have f6:=frozen_of_row wE _ 6 _ _ RZ;clear RZ hbE y0 y1 y2 y3 y4 y5 y6;go_wp2_with fail;rw[HN.out];refine bodyPost_ret (v:=.tuple #[blk0.v,.bool false]) (qew results97 _ _ w.heap.size blk0 _ (by simp) (by simp) HFIN.out) rfl ⟨?_,?_⟩
   · rfl
   · exact set7 HB.out (Nat.le_refl _) _ _ _ _ _ _ _
 have HME:=hid hmay;have henc:64<=(encB x).length:=by
  have:=qhu hmay;have:=qfa x.cls (qeg hmay).1;rw[encB,List.length_append,qcv x (by omega)];omega
 have HEL:=hid henc;clear hmay henc;go_wp2_with fail;refine(qhz x wc HME.out).mono ?_;rintro e wE⟨A2,cE,rfl,hownE,hbE⟩;have C1:=λcap=>qkg (HLC.out.below hbE) (by intro h0;rw[h0]at h64;simp at h64) cap
 have C2:=λcap=>qkg (hownE.arr qbn) (by intro h0;have:=HEL.out;rw[h0]at this;simp at this) cap
 have RZ:=qac hbE (by omega) HRC.out;have RX:=qac hbE (by omega) HRX.out;have hB2:=hbE.size;have HB:Hid (Below w.heap.size w wE):=hid (HBC.out.trans (hbE.mono (by omega)));obtain⟨z0,z1,z2,z3,z4,z5,z6⟩:=BlkC.cells RX;have q0:=cell_of_row wE _ 0 _ _ _ RZ;have q1:=cell_of_row wE _ 1 _ _ _ RZ;have q2:=cell_of_row wE _ 2 _ _ _ RZ;have q3:=cell_of_row wE _ 3 _ _ _ RZ;have q4:=cell_of_row wE _ 4 _ _ _ RZ;have q5:=cell_of_row wE _ 5 _ _ _ RZ;have q6:=cell_of_row wE _ 6 _ _ _ RZ;have f0:=frozen_of_row wE _ 0 _ _ RZ;have f1:=frozen_of_row wE _ 1 _ _ RZ;have f2:=frozen_of_row wE _ 2 _ _ RZ;have f3:=frozen_of_row wE _ 3 _ _ RZ;have f4:=frozen_of_row wE _ 4 _ _ RZ;have f5:=frozen_of_row wE _ 5 _ _ RZ;have f6:=frozen_of_row wE _ 6 _ _ RZ;have HFIN:=hid (qr0 (b0:=.int .i64 0) (b1:=.int .i64 0) (b2:=.int .u64 0) (b3:=.int .u64 0) (b4:=.int .u64 0) (b5:=.string ByteArray.empty) (b6:=.string ByteArray.empty) RZ);have HFIX:=hid (qr0 (b0:=.int .i64 x.cls) (b1:=.int .i64 x.kind) (b2:=.int .u64 (x.id:Int)) (b3:=.int .u64 (x.ver:Int)) (b4:=.int .u64 (x.ep:Int)) (b5:=.string x.key) (b6:=.string x.val) RZ);clear RZ RX hbE y0 y1 y2 y3 y4 y5 y6 HRC HRX HLC;generalize hse:strB (encB x)=se at *;generalize hsl:strB l=sl at *;have HSE:=hid hse;have HSLL:=hid hsl;clear hse hsl hownE;by_cases heq:se=sl
 · have hel0:strB (encB x)=strB l:=by rw[HSE.out,HSLL.out];exact heq
   have hel1:=qvf hel0;have hel:encB x=l:=hel1;have hand:mayB x=true/\encB x=l:=⟨HME.out,hel⟩;have HN:Hid (decB l=some x):=hid (HN2.out.trans (if_pos hand));clear hel hel0 hel1 hand;have hne:(se.toList==sl.toList)=true:=by rw[heq,beq_self_eq_true]
   clear HN2 heq;go_wp2_with fail;rw[HN.out];refine bodyPost_ret (v:=.tuple #[x.v,.bool true]) (qew results97 _ _ w.heap.size x _ (by simp) (by simp) HFIX.out) rfl ⟨?_,?_⟩
   · rfl
   · exact set7 HB.out (Nat.le_refl _) _ _ _ _ _ _ _
 · have HN:Hid (decB l=none):=hid (by rw[HN2.out,if_neg (λh=>heq (by rw[<-HSE.out,<-HSLL.out,h.2]))])
   have hne:(se.toList==sl.toList)=false:=by rw[beq_eq_false_iff_ne];exact λh=>heq (qbu h)
   clear HN2 heq;go_wp2_with fail;rw[HN.out];refine bodyPost_ret (v:=.tuple #[blk0.v,.bool false]) (qew results97 _ _ w.heap.size blk0 _ (by simp) (by simp) HFIN.out) rfl ⟨?_,?_⟩
   · rfl
   · exact set7 HB.out (Nat.le_refl _) _ _ _ _ _ _ _
end Go.Proofs.YtecikkjbnkhhkaaGreat
