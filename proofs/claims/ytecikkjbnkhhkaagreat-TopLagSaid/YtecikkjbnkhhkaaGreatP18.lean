/- A part of the walk. -/
import Derived.Test.YtecikkjbnkhhkaaGreatP04
import Derived.Test.YtecikkjbnkhhkaaGreatP10
namespace Go.Proofs.YtecikkjbnkhhkaaGreat
open _root_.Go.Proofs.Tryz
set_option maxHeartbeats 4000000
set_option maxRecDepth 100000
open Go.RowKit
def qui(b:BlkC)(w:World)(e:Ending)(w':World):Prop:=e=.returned (.bool (mayB b))/\Below w.heap.size w w'
theorem qkl(b:BlkC)(w:World)(hk:b.key.size<=1000000)(hv:b.val.size<=1000000):Calls prog 173 #[b.v] w (qui b w):=by
 have HVV:=hid (show b.v=.agg #[.int .i64 b.cls,.int .i64 b.kind,.int .u64 (b.id:Int),.int .u64 (b.ver:Int),.int .u64 (b.ep:Int),.string b.key,.string b.val]from rfl);rw[HVV.out];go_enter func173,ntmps173;go_upto_region 1 with fail;generalize hw1:World.alloc w _=w1;have b1:Below w.heap.size w w1:=by rw[<-hw1];exact(Below.refl _ _).alloc (Nat.le_refl _) _
 have R1:w1.heap[w.heap.size]? =some (.cells b.enc.toArray 203 (0,0)):=by rw[<-hw1];exact(qa2 _ _ _).trans (if_pos rfl)
 have HB1:=hid b1;have HR1:=hid R1;obtain⟨q0,q1,q2,q3,q4,q5,q6⟩:=BlkC.cells R1;have hl1:=qa0 R1;clear hw1 b1 R1;go_wp2_with fail;refine(qaw b.cls w1).mono ?_;rintro e w2⟨rfl,rfl⟩;by_cases hs:qa9 b.cls=0
 · have hs':((qa9 b.cls:Nat):Int)=0:=by omega
   rw[hs'];go_wp2_with fail;go_ret;exact⟨by rw[mayB,if_pos hs];rfl,HB1.out⟩
 have HS:=hid hs;have hsb:(((qa9 b.cls:Nat):Int)==0)=false:=by rw[beq_eq_false_iff_ne];omega
 have i1:IntKind.i64.wrap ((b.key.size:Int)+(b.val.size:Int))=(b.key.size:Int)+(b.val.size:Int):=Go.IntWalk.i64_in _ (by omega);have T1:=λW=>qfv b.id W
 have T2:=λW=>qfv b.ver W
 have T3:=λW=>qfv b.ep W
 obtain⟨n1,hn1⟩:∃n,n=qau b.id:=⟨_,rfl⟩;obtain⟨n2,hn2⟩:∃n,n=qau b.ver:=⟨_,rfl⟩;obtain⟨n3,hn3⟩:∃n,n=qau b.ep:=⟨_,rfl⟩;rw[<-hn1]at T1;rw[<-hn2]at T2;rw[<-hn3]at T3;have HN:=hid (And.intro hn1 (And.intro hn2 hn3));have HT1:=hid T1;have HT2:=hid T2;have HT3:=hid T3;clear hn1 hn2 hn3 hs T1 T2 T3;obtain⟨sp,hsp⟩:∃sp,sp=((qa9 b.cls:Nat):Int):=⟨_,rfl⟩;rw[<-hsp]at hsb ⊢;clear hsp;by_cases k0:b.kind=0
 · have K0:=hid k0
   have M0:Hid (mayB b=decide (b.id=0/\b.ver=0/\b.ep=0/\b.key.toList=[]/\b.val.toList=[])):=hid (by rw[mayB,if_neg HS.out,if_pos k0]);rw[k0]at q1 ⊢;clear HT1 HT2 HT3 HN i1;go_wp2_with fail;all_goals
    go_ret;refine⟨?_,HB1.out⟩;rw[M0.out];first
     |rw[decide_eq_true (by refine⟨?_,?_,?_,?_,?_⟩ <;> assumption)];rfl
     |rw[decide_eq_false (λh=>by obtain⟨h1,h2,h3,h4,h5⟩:=h;first|exact absurd h1 (by assumption)|exact absurd h2 (by assumption)|exact absurd h3 (by assumption)|exact absurd h4 (by assumption)|exact absurd h5 (by assumption))];rfl
 by_cases k1:b.kind=1
 · have K0:=hid k0
   have K1:=hid k1;rw[k1]at q1 ⊢;clear k0 k1;by_cases hk1:b.key.size<1
   · have h1:(b.key.size:Int)<1:=by omega
     have M0:Hid (mayB b=false):=hid (by rw[mayB,if_neg HS.out,if_neg K0.out,if_pos K1.out,if_pos (.inl hk1)]);clear HT1 HT2 HT3 HN hk1;go_wp2_with fail;go_ret;exact⟨by rw[M0.out];rfl,HB1.out⟩
   have h1:¬(b.key.size:Int)<1:=by omega
   by_cases hk16:16<b.key.size
   · have h2:(16:Int)<(b.key.size:Int):=by omega
     have M0:Hid (mayB b=false):=hid (by rw[mayB,if_neg HS.out,if_neg K0.out,if_pos K1.out,if_pos (.inr hk16)]);clear HT1 HT2 HT3 HN hk16 hk1;go_wp2_with fail;go_ret;exact⟨by rw[M0.out];rfl,HB1.out⟩
   have h2:¬(16:Int)<(b.key.size:Int):=by omega
   have i2:IntKind.i64.wrap ((b.key.size:Int)+(b.val.size:Int)-(b.key.size:Int))=(b.val.size:Int):=by rw[show(b.key.size:Int)+(b.val.size:Int)-(b.key.size:Int)=(b.val.size:Int)by omega];exact Go.IntWalk.i64_in _ (by omega)
   by_cases hv4:400<b.val.size
   · have h3:(400:Int)<(b.val.size:Int):=by omega
     have M0:Hid (mayB b=false):=hid (by rw[mayB,if_neg HS.out,if_neg K0.out,if_pos K1.out,if_neg (by omega),if_pos (.inl hv4)]);clear HT1 HT2 HT3 HN hk16 hk1 hv4;go_wp2_with fail;go_quiet (fail);go_wp2_with fail;go_ret;exact⟨by rw[M0.out];rfl,qa1 HB1.out _⟩
   have h3:¬(400:Int)<(b.val.size:Int):=by omega
   by_cases hn:qbh ((b.key.size:Int)+(b.val.size:Int))=b.cls
   · have M0:Hid (mayB b=(qau b.id&&qau b.ver&&qau b.ep)):=hid (by rw[mayB,if_neg HS.out,if_neg K0.out,if_pos K1.out,if_neg (by omega),if_neg (by omega)])
     have hnb:(qbh ((b.key.size:Int)+(b.val.size:Int)) != b.cls)=false:=by simp[hn]
     clear hk16 hk1 hv4;have M1:Hid (mayB b=(n1&&n2&&n3)):=hid (by rw[M0.out,HN.out.1,HN.out.2.1,HN.out.2.2]);clear M0;go_wp2_with fail;go_quiet (exact Calls.quiet_of_same (qf5 _ _));go_wp2_with fail;refine(HT1.out _).mono ?_;rintro e w3⟨rfl,rfl⟩;cases n1 with
     |false =>
      go_wp2_with fail;go_ret;exact⟨by rw[M1.out];rfl,qa1 HB1.out _⟩
     |true =>
      go_wp2_with fail;refine(HT2.out _).mono ?_;rintro e w4⟨rfl,rfl⟩;cases n2 with
      |false =>
       go_wp2_with fail;go_ret;exact⟨by rw[M1.out];rfl,qa1 HB1.out _⟩
      |true =>
       go_wp2_with fail;refine(HT3.out _).mono ?_;rintro e w5⟨rfl,rfl⟩;go_wp2_with fail;go_ret;exact⟨by rw[M1.out];cases n3 <;> rfl,qa1 HB1.out _⟩
   · have M0:Hid (mayB b=false):=hid (by rw[mayB,if_neg HS.out,if_neg K0.out,if_pos K1.out,if_neg (by omega),if_pos (.inr hn)])
     have hnb:(qbh ((b.key.size:Int)+(b.val.size:Int)) != b.cls)=true:=by simp[hn]
     clear HT1 HT2 HT3 HN hk16 hk1 hv4;go_wp2_with fail;go_quiet (exact Calls.quiet_of_same (qf5 _ _));go_wp2_with fail;go_ret;exact⟨by rw[M0.out];rfl,qa1 HB1.out _⟩
 by_cases k2:b.kind=2
 · have K0:=hid k0
   have K1:=hid k1;have K2:=hid k2;rw[k2]at q1 ⊢;clear k0 k1 k2;by_cases hk0:b.key.size=0
   · have hkt:b.key.toList=[]:=by rw[Lib.toList_data];exact List.eq_nil_of_length_eq_zero (by rw[Array.length_toList];exact hk0)
     have hke:b.key=ByteArray.empty:=by apply qbu;rw[hkt,Lib.toList_data];rfl
     have hkz:(b.key.size:Int)=0:=by omega
     have i3:IntKind.i64.wrap (b.val.size:Int)=(b.val.size:Int):=Go.IntWalk.i64_in _ (by omega);have hsum:(b.key.size:Int)+(b.val.size:Int)=(b.val.size:Int):=by omega
     rw[hsum]at i1;by_cases hv4:400<b.val.size
     · have h3:(400:Int)<(b.val.size:Int):=by omega
       have M0:Hid (mayB b=false):=hid (by rw[mayB,if_neg HS.out,if_neg K0.out,if_neg K1.out,if_pos K2.out,if_pos (.inr (.inl hv4))]);clear HT1 HT2 HT3 HN hv4;go_wp2_with fail;go_quiet (fail);go_wp2_with fail;go_ret;exact⟨by rw[M0.out];rfl,qa1 HB1.out _⟩
     have h3:¬(400:Int)<(b.val.size:Int):=by omega
     by_cases hn:qbh (b.val.size:Int)=b.cls
     · have M0:Hid (mayB b=(qau b.id&&qau b.ver&&qau b.ep)):=hid (by rw[mayB,if_neg HS.out,if_neg K0.out,if_neg K1.out,if_pos K2.out,if_neg (by omega)])
       have hnb:(qbh (b.val.size:Int) != b.cls)=false:=by simp[hn]
       clear hv4;have M1:Hid (mayB b=(n1&&n2&&n3)):=hid (by rw[M0.out,HN.out.1,HN.out.2.1,HN.out.2.2]);clear M0;go_wp2_with fail;go_quiet (exact Calls.quiet_of_same (qf5 _ _));go_wp2_with fail;refine(HT1.out _).mono ?_;rintro e w3⟨rfl,rfl⟩;cases n1 with
       |false =>
        go_wp2_with fail;go_ret;exact⟨by rw[M1.out];rfl,qa1 HB1.out _⟩
       |true =>
        go_wp2_with fail;refine(HT2.out _).mono ?_;rintro e w4⟨rfl,rfl⟩;cases n2 with
        |false =>
         go_wp2_with fail;go_ret;exact⟨by rw[M1.out];rfl,qa1 HB1.out _⟩
        |true =>
         go_wp2_with fail;refine(HT3.out _).mono ?_;rintro e w5⟨rfl,rfl⟩;go_wp2_with fail;go_ret;exact⟨by rw[M1.out];cases n3 <;> rfl,qa1 HB1.out _⟩
     · have M0:Hid (mayB b=false):=hid (by rw[mayB,if_neg HS.out,if_neg K0.out,if_neg K1.out,if_pos K2.out,if_pos (.inr (.inr hn))])
       have hnb:(qbh (b.val.size:Int) != b.cls)=true:=by simp[hn]
       clear HT1 HT2 HT3 HN hv4;go_wp2_with fail;go_quiet (exact Calls.quiet_of_same (qf5 _ _));go_wp2_with fail;go_ret;exact⟨by rw[M0.out];rfl,qa1 HB1.out _⟩
   · have hkt:¬b.key.toList=[]:=λh0=>hk0 (by rw[Lib.toList_data]at h0;show b.key.data.size=0;rw[<-Array.length_toList,h0];rfl)
     have M0:Hid (mayB b=false):=hid (by rw[mayB,if_neg HS.out,if_neg K0.out,if_neg K1.out,if_pos K2.out,if_pos (.inl hk0)]);have hktb:(b.key.toList== [])=false:=by rw[beq_eq_false_iff_ne];exact hkt
     clear HT1 HT2 HT3 HN;go_wp2_with fail;go_quiet (fail);go_wp2_with fail;go_ret;exact⟨by rw[M0.out];rfl,qa1 HB1.out _⟩
 by_cases k3:b.kind=3
 · have K0:=hid k0
   have K1:=hid k1;have K2:=hid k2;have K3:=hid k3;rw[k3]at q1 ⊢;clear k0 k1 k2 k3;by_cases hz:b.key.size+b.val.size=0
   · have hzi:(b.key.size:Int)+(b.val.size:Int)=0:=by omega
     by_cases hc:b.cls=0
     · have M0:Hid (mayB b=(qau b.id&&qau b.ver&&qau b.ep)):=hid (by rw[mayB,if_neg HS.out,if_neg K0.out,if_neg K1.out,if_neg K2.out,if_pos K3.out,if_neg (by omega)])
       rw[hc]at q0;have M1:Hid (mayB b=(n1&&n2&&n3)):=hid (by rw[M0.out,HN.out.1,HN.out.2.1,HN.out.2.2]);clear M0;go_wp2_with fail;refine(HT1.out _).mono ?_;rintro e w3⟨rfl,rfl⟩;cases n1 with
       |false =>
        go_wp2_with fail;go_ret;exact⟨by rw[M1.out];rfl,HB1.out⟩
       |true =>
        go_wp2_with fail;refine(HT2.out _).mono ?_;rintro e w4⟨rfl,rfl⟩;cases n2 with
        |false =>
         go_wp2_with fail;go_ret;exact⟨by rw[M1.out];rfl,HB1.out⟩
        |true =>
         go_wp2_with fail;refine(HT3.out _).mono ?_;rintro e w5⟨rfl,rfl⟩;go_wp2_with fail;go_ret;exact⟨by rw[M1.out];cases n3 <;> rfl,HB1.out⟩
     · have M0:Hid (mayB b=false):=hid (by rw[mayB,if_neg HS.out,if_neg K0.out,if_neg K1.out,if_neg K2.out,if_pos K3.out,if_pos (.inr hc)])
       clear HT1 HT2 HT3 HN;go_wp2_with fail;go_ret;exact⟨by rw[M0.out];rfl,HB1.out⟩
   · have hzi:¬(b.key.size:Int)+(b.val.size:Int)=0:=by omega
     have M0:Hid (mayB b=false):=hid (by rw[mayB,if_neg HS.out,if_neg K0.out,if_neg K1.out,if_neg K2.out,if_pos K3.out,if_pos (.inl hz)]);clear HT1 HT2 HT3 HN;go_wp2_with fail;go_ret;exact⟨by rw[M0.out];rfl,HB1.out⟩
 have M0:Hid (mayB b=false):=hid (by rw[mayB,if_neg HS.out,if_neg k0,if_neg k1,if_neg k2,if_neg k3]);clear HT1 HT2 HT3 HN;go_wp2_with fail;go_ret;exact⟨by rw[M0.out];rfl,HB1.out⟩
end Go.Proofs.YtecikkjbnkhhkaaGreat
