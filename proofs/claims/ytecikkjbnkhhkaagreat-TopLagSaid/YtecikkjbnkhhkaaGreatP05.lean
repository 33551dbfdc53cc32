/- A part of the walk. -/
import Derived.Test.YtecikkjbnkhhkaaGreatP02
namespace Go.Proofs.YtecikkjbnkhhkaaGreat
open _root_.Go.Proofs.Tryz
set_option maxHeartbeats 4000000
set_option maxRecDepth 100000
section
open Go.RowKit
theorem RowB.there{w:World}{b:Nat}{t:TypeId}(h:RowB w b t (zeros 64)):w.there b 0 64:=λj hj=>by
 have h1:=h.cell (i:=j) (by simpa[zeros]using hj)
 rw[Nat.zero_add,h1]
 exact⟨rfl,frozen_of_row w _ _ _ _ h⟩
def qip:List UInt8:=[4,70,85,83,69,0,0,0,0]
def qc0(v:Nat):List UInt8:=qcd (putL qip 5 v 4)
theorem ql3{m:List UInt8}(hm:m.length=9):(qcd m).length=64:=by rw[qcd,qb7,qc1 (by rw[hm];decide)];rfl
theorem qc4(v:Nat):(qc0 v).length=64:=ql3 (by rw[qb7];rfl)
theorem qrq(v:Nat)(w:World)(hv:v<4294967296):Calls prog 138 #[.int .i64 (v:Int)] w λe w'=>e=.returned (.agg (byC (qc0 v)).toArray)/\Below w.heap.size w w':=by
 have HV:=hid hv;have i1:IntKind.u64.wrap (v:Int)=(v:Int):=by rw[IntKind.wrap_u64];omega
 have hmlen:(putL qip 5 v 4).length=9:=by rw[qb7];rfl
 have HML:=hid hmlen;clear hmlen hv;go_enter func138,ntmps138;go_upto_region 1 with fail;generalize hw1:World.alloc w _=w1;have Z1:RowB w1 w.heap.size 251 (zeros 64):=by rw[<-hw1];exact(qa2 _ _ _).trans (if_pos rfl)
 have b1:Below w.heap.size w w1:=by rw[<-hw1];exact(Below.refl _ _).alloc (Nat.le_refl _) _
 have HZ1:=hid Z1;have HB1:=hid b1;have hl1:=qa0 Z1;clear hw1 Z1 b1;go_wp2_with fail;generalize hw2:World.alloc w1 _=w2;have R2:RowB w2 w1.heap.size 5 qip:=by rw[<-hw2];exact(qa2 _ _ _).trans (if_pos rfl)
 have b2:Below w1.heap.size w1 w2:=by rw[<-hw2];exact(Below.refl _ _).alloc (Nat.le_refl _) _
 have HR2:=hid R2;have HB2:=hid (HB1.out.trans (b2.mono HB1.out.size));have HZ2:=hid (HZ1.out.below b2 hl1);have l12:=b2.size;clear hw2 R2 b2;refine(qgp qip (some ⟨w1.heap.size,0,none⟩) 9 5 4 v w2 HR2.out.arr0 (by omega) (by omega) (by decide) (by decide) (by have:=HV.out;omega) (by have:=HV.out;omega)).mono ?_;rintro e w3⟨A3,c3,rfl,hown,b3⟩;rw[HML.out];have HO3:=hid hown;have HB3:=hid (HB2.out.trans (b3.mono HB2.out.size));have HZ3:=hid (HZ2.out.below b3 (Nat.lt_of_lt_of_le hl1 l12));clear hown b3 i1;go_wp2_with fail;have T4:=qiq (putL qip 5 v 4) A3 c3 w3 (HO3.out.arr qbn) HML.out HO3.out.len HO3.out.max;rw[HML.out]at T4;refine T4.mono ?_;rintro e w4⟨rfl,b4⟩;have HB4:=hid (HB3.out.trans (b4.mono HB3.out.size));have hz3:=qa0 HZ3.out;have HZ4:=hid (HZ3.out.below b4 hz3);have HSZ:=hid (show(byC (qc0 v)).length=64 by rw[qad,qc4]);have HTH:Hid (w4.there w.heap.size 0 (byC (qc0 v)).toArray.size):=hid (by
  rw[show(byC (qc0 v)).toArray.size=64 from HSZ.out]
  exact HZ4.out.there)
 have HIA:Hid ((prog.info? 251).map (·.size)=some (byC (qc0 v)).toArray.size):=hid (by rw[show(byC (qc0 v)).toArray.size=64 from HSZ.out];exact qf1);clear b4 T4;rw[show byC (qcd (putL qip 5 v 4))=byC (qc0 v)from rfl];go_wp2_with(refine wpList_store_mid rfl 251 (.tmp 2) (.tmp 13) rfl w.heap.size 0 (byC (qc0 v)).toArray (by first|rfl|simp[Act.eval]) (by first|rfl|simp[Act.eval]) HTH.out HIA.out (all_oneCell_toArray qcw) ?_);refine bodyPost_ret (v:=.agg (byC (qc0 v)).toArray) ?_ rfl ⟨rfl,?_⟩
 · exact qah results138 _ _ w.heap.size _ _ rfl (World.rangeAt_setCells_same w4 w.heap.size 0 (byC (qc0 v)) HTH.out) underlying251 rfl HIA.out
 · exact qae (Nat.le_refl _) _ _ _ HB4.out
def qja:List UInt8:=[3,0,0,0,0,0,0,0,0]
def qc3(v:Nat):List UInt8:=qcd (putL qja 1 v 8)
theorem qc7(v:Nat):(qc3 v).length=64:=ql3 (by rw[qb7];rfl)
theorem qtl(v:Nat)(w:World)(hv:v<18446744073709551616):Calls prog 122 #[.int .u64 (v:Int)] w λe w'=>e=.returned (.agg (byC (qc3 v)).toArray)/\Below w.heap.size w w':=by
 have HV:=hid hv;have hmlen:(putL qja 1 v 8).length=9:=by rw[qb7];rfl
 have HML:=hid hmlen;clear hmlen hv;go_enter func122,ntmps122;go_upto_region 1 with fail;generalize hw1:World.alloc w _=w1;have Z1:RowB w1 w.heap.size 251 (zeros 64):=by rw[<-hw1];exact(qa2 _ _ _).trans (if_pos rfl)
 have b1:Below w.heap.size w w1:=by rw[<-hw1];exact(Below.refl _ _).alloc (Nat.le_refl _) _
 have HZ1:=hid Z1;have HB1:=hid b1;have hl1:=qa0 Z1;clear hw1 Z1 b1;go_wp2_with fail;generalize hw2:World.alloc w1 _=w2;have R2:RowB w2 w1.heap.size 5 qja:=by rw[<-hw2];exact(qa2 _ _ _).trans (if_pos rfl)
 have b2:Below w1.heap.size w1 w2:=by rw[<-hw2];exact(Below.refl _ _).alloc (Nat.le_refl _) _
 have HR2:=hid R2;have HB2:=hid (HB1.out.trans (b2.mono HB1.out.size));have HZ2:=hid (HZ1.out.below b2 hl1);have l12:=b2.size;clear hw2 R2 b2;refine(qgp qja (some ⟨w1.heap.size,0,none⟩) 9 1 8 v w2 HR2.out.arr0 (by omega) (by omega) (by decide) (by decide) (by have:=HV.out;omega) (by have:=HV.out;omega)).mono ?_;rintro e w3⟨A3,c3,rfl,hown,b3⟩;rw[HML.out];have HO3:=hid hown;have HB3:=hid (HB2.out.trans (b3.mono HB2.out.size));have HZ3:=hid (HZ2.out.below b3 (Nat.lt_of_lt_of_le hl1 l12));clear hown b3;go_wp2_with fail;have T4:=qiq (putL qja 1 v 8) A3 c3 w3 (HO3.out.arr qbn) HML.out HO3.out.len HO3.out.max;rw[HML.out]at T4;refine T4.mono ?_;rintro e w4⟨rfl,b4⟩;have HB4:=hid (HB3.out.trans (b4.mono HB3.out.size));have hz3:=qa0 HZ3.out;have HZ4:=hid (HZ3.out.below b4 hz3);have HSZ:=hid (show(byC (qc3 v)).length=64 by rw[qad,qc7]);have HTH:Hid (w4.there w.heap.size 0 (byC (qc3 v)).toArray.size):=hid (by
  rw[show(byC (qc3 v)).toArray.size=64 from HSZ.out]
  exact HZ4.out.there)
 have HIA:Hid ((prog.info? 251).map (·.size)=some (byC (qc3 v)).toArray.size):=hid (by rw[show(byC (qc3 v)).toArray.size=64 from HSZ.out];exact qf1);clear b4 T4;rw[show byC (qcd (putL qja 1 v 8))=byC (qc3 v)from rfl];go_wp2_with(refine wpList_store_mid rfl 251 (.tmp 2) (.tmp 12) rfl w.heap.size 0 (byC (qc3 v)).toArray (by first|rfl|simp[Act.eval]) (by first|rfl|simp[Act.eval]) HTH.out HIA.out (all_oneCell_toArray qcw) ?_);refine bodyPost_ret (v:=.agg (byC (qc3 v)).toArray) ?_ rfl ⟨rfl,?_⟩
 · exact qah results122 _ _ w.heap.size _ _ rfl (World.rangeAt_setCells_same w4 w.heap.size 0 (byC (qc3 v)) HTH.out) underlying251 rfl HIA.out
 · exact qae (Nat.le_refl _) _ _ _ HB4.out
end
section
open Go.RowKit
theorem RowB.set{w:World}{b:Nat}{t:TypeId}{l0 l:List UInt8}(h:RowB w b t l0)(hl:l.length=l0.length):RowB (w.setCells b 0 (byC l)) b t l:=by
 obtain⟨cur,h1,h2, -, -,h5⟩:=qax (byC l) 0 w _ h (by rw[qad,List.size_toArray,qad];omega);have e:cur=(byC l).toArray:=by
  apply Array.ext_getElem?;intro i;by_cases hi:i<l.length
  · have hi':i<(byC l).length:=by rw[qad];exact hi
    have:=h5 i (byC l)[i] (List.getElem?_eq_getElem hi');rw[Nat.zero_add]at this;rw[this,List.getElem?_toArray,List.getElem?_eq_getElem hi']
  · rw[Array.getElem?_eq_none (by rw[h2,List.size_toArray,qad];omega),Array.getElem?_eq_none (by rw[List.size_toArray,qad];omega)]
 unfold RowB;rw[h1,e]
theorem qb2(b:Nat):∀(vs:List Value) (o:Nat) (w:World) (k:Nat),k≠b->(w.setCells b o vs).heap[k]? =w.heap[k]?
 | [],_,_,_,_=>rfl
 |v::r,o,w,k,h=>by rw[World.setCells,qb2 b r (o+1) _ k h,Below.heap_setCell _ _ _ _ h]
def qmh(l:List UInt8)(w:World)(v:Value)(w':World):Prop:=∃b,v=.slice (some ⟨b,0,none⟩) 64 64/\RowB w' b 251 l/\w.heap.size<=b/\Below w.heap.size w w'
theorem qqu(v:Nat)(w:World)(hv:v<18446744073709551616):Calls prog 106 #[.int .u64 (v:Int)] w λe w'=>∃x,e=.returned x/\qmh (qc3 v) w x w':=by
 go_enter func106,ntmps106;go_wp2_with fail;refine(qtl v w hv).mono ?_;rintro e w1⟨rfl,b1⟩;have HB1:=hid b1;have hs1:=b1.size;have HSZ:=hid (show(byC (qc3 v)).toArray.size=64 by rw[List.size_toArray,qad,qc7]);have HIA:Hid ((prog.info? 251).map (·.size)=some (byC (qc3 v)).toArray.size):=hid (by rw[HSZ.out];exact qf1);clear b1;go_upto_region 2 with(refine wpList_store_mid rfl 251 (.tmp 3) (.tmp 5) rfl w1.heap.size 0 (byC (qc3 v)).toArray (by first|rfl|simp[Act.eval]) (by first|rfl|simp[Act.eval]) (by rw[HSZ.out];exact RowB.there (t:=251) ((qa2 _ _ _).trans (if_pos rfl))) HIA.out (all_oneCell_toArray qcw) ?_);generalize hw2:World.setCells _ _ _ _=w2;have R2:RowB w2 w1.heap.size 251 (qc3 v):=by rw[<-hw2];exact RowB.set (l0:=zeros 64) ((qa2 _ _ _).trans (if_pos rfl)) (by rw[qc7];rfl)
 have b2:Below w1.heap.size w1 w2:=by rw[<-hw2];exact qae (Nat.le_refl _) _ _ _ ((Below.refl _ _).alloc (Nat.le_refl _) _)
 have HR2:=hid R2;have HB2:=hid b2;clear hw2 R2 b2 HIA HSZ;simp only[Act.put];go_wp2_with fail;go_ret;exact⟨_,rfl,w1.heap.size,rfl,HR2.out,hs1,HB1.out.trans (HB2.out.mono hs1)⟩
theorem qpu(v:Nat)(w:World)(h1:10<=v)(h2:v<=258):Calls prog 104 #[.int .i64 (v:Int)] w λe w'=>∃x,e=.returned (.tuple #[x,.int .i64 0])/\qmh (qc0 v) w x w':=by
 have g1:¬(v:Int)<10:=by omega
 have g2:¬(258:Int)<(v:Int):=by omega
 go_enter func104,ntmps104;go_wp2_with fail;refine(qrq v w (by omega)).mono ?_;rintro e w1⟨rfl,b1⟩;have HB1:=hid b1;have hs1:=b1.size;have HSZ:=hid (show(byC (qc0 v)).toArray.size=64 by rw[List.size_toArray,qad,qc4]);have HIA:Hid ((prog.info? 251).map (·.size)=some (byC (qc0 v)).toArray.size):=hid (by rw[HSZ.out];exact qf1);clear b1 g1 g2;go_upto_region 4 with(refine wpList_store_mid rfl 251 (.tmp 4) (.tmp 12) rfl w1.heap.size 0 (byC (qc0 v)).toArray (by first|rfl|simp[Act.eval]) (by first|rfl|simp[Act.eval]) (by rw[HSZ.out];exact RowB.there (t:=251) ((qa2 _ _ _).trans (if_pos rfl))) HIA.out (all_oneCell_toArray qcw) ?_);generalize hw2:World.setCells _ _ _ _=w2;have R2:RowB w2 w1.heap.size 251 (qc0 v):=by rw[<-hw2];exact RowB.set (l0:=zeros 64) ((qa2 _ _ _).trans (if_pos rfl)) (by rw[qc4];rfl)
 have b2:Below w1.heap.size w1 w2:=by rw[<-hw2];exact qae (Nat.le_refl _) _ _ _ ((Below.refl _ _).alloc (Nat.le_refl _) _)
 have HR2:=hid R2;have HB2:=hid b2;clear hw2 R2 b2 HIA HSZ;simp only[Act.put];go_wp2_with fail;go_ret2;exact⟨_,rfl,w1.heap.size,rfl,HR2.out,hs1,HB1.out.trans (HB2.out.mono hs1)⟩
theorem ql1(n:Nat)(w:World)(h1:10<=n)(h2:n<=258):Calls prog 72 #[.int .i64 (n:Int)] w λe w'=>e=.returned (.int .i64 (((n-2)/8:Nat):Int))/\w'=w:=by
 have g1:¬(n:Int)<10:=by omega
 have g2:min (n:Int) 258=n:=by omega
 have g3:IntKind.i64.wrap ((n:Int)-2)=(n:Int)-2:=Go.IntWalk.i64_in _ (by omega);have g4:((n:Int)-2).tdiv 8=(((n-2)/8:Nat):Int):=by rw[Int.tdiv_eq_ediv_of_nonneg (by omega)];omega
 go_enter func72,ntmps72;go_wp2_with fail;go_ret;exact⟨rfl,rfl⟩
end
end Go.Proofs.YtecikkjbnkhhkaaGreat
