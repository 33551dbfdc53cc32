/- A part of the walk. -/
import Derived.Test.YtecikkjbnkhhkaaGreatP43
namespace Go.Proofs.YtecikkjbnkhhkaaGreat
open _root_.Go.Proofs.Tryz
set_option maxHeartbeats 4000000
set_option maxRecDepth 100000
section
open Go.RowKit
def low(x n:Int):Int:=IntKind.u64.wrap x%n
theorem qsk(x n:Int)(hn:1<=n):0<=low x n:=Int.emod_nonneg _ (by omega)
theorem qy3(x n:Int)(hn:1<=n):low x n<n:=Int.emod_lt_of_pos _ (by omega)
theorem qAn(x n:Int)(hn:1<=n)(hm:n<=9223372036854775807):wrap64 ((IntKind.u64.wrap x).tmod n)=low x n:=by
 have h0:0<=IntKind.u64.wrap x:=by rw[IntKind.wrap_u64];omega
 have h1:=qsk x n hn;have h2:=qy3 x n hn;rw[Int.tmod_eq_emod_of_nonneg h0];exact Go.IntWalk.wrap64_in _ ⟨by unfold low at *;omega,by unfold low at *;omega⟩
theorem qd6(x n:Int)(hn:1<=n)(hm:n<=9223372036854775807)(w:World):
 Calls prog 21 #[.int .i64 x,.int .i64 n] w λe w'=>e=.returned (.int .i64 (low x n))/\w'=w:=by
 go_enter func21,ntmps21;go_wp2;go_ret;exact⟨qs1 (qAn x n hn hm),rfl⟩
theorem qd5(x n:Int)(hn:1<=n):∃k:Nat,low x n=(k:Int)/\(k:Int)<n:=⟨(low x n).toNat,by have:=qsk x n hn;omega,by have:=qsk x n hn;have:=qy3 x n hn;omega⟩
def cfgV(x r:Int):Value:=.agg #[.int .i64 (18+8*low x 4),.int .i64 (2+low r 2),.int .i64 (low r 8)]
theorem qqr(x r:Int)(w:World):Calls prog 11 #[.int .i64 x,.int .i64 r] w λe w'=>e=.returned (cfgV x r)/\Below w.heap.size w w':=by
 have L1:=hid (λW=>qd6 x 4 (by decide) (by decide) W);have L2:=hid (λW=>qd6 r 2 (by decide) (by decide) W);have L3:=hid (λW=>qd6 r 8 (by decide) (by decide) W);obtain⟨k1,e1,b1⟩:=qd5 x 4 (by decide);obtain⟨k2,e2,b2⟩:=qd5 r 2 (by decide);obtain⟨k3,e3,b3⟩:=qd5 r 8 (by decide);unfold cfgV;rw[e1,e2,e3];simp only[e1,e2,e3]at L1 L2 L3;have i1:IntKind.i64.wrap (8*(k1:Int))=8*(k1:Int):=Go.IntWalk.i64_in _ (by omega);have i2:IntKind.i64.wrap (18+8*(k1:Int))=18+8*(k1:Int):=Go.IntWalk.i64_in _ (by omega);have i3:IntKind.i64.wrap (2+(k2:Int))=2+(k2:Int):=Go.IntWalk.i64_in _ (by omega);clear e1 e2 e3;go_enter func11,ntmps11;go_upto_region 1 with fail;generalize hw1:World.alloc _ _=w1;have hb1:Below w.heap.size w w1:=by rw[<-hw1];exact(Below.refl _ _).alloc (Nat.le_refl _) _
 obtain⟨cur,R0,hc⟩:∃cur,w1.heap[w.heap.size]? =some (.cells cur 27 (0,0))/\cur.size=3:=⟨_,by rw[<-hw1];exact qaq _ _,rfl⟩;have HB1:=hid hb1;have f0:=frozen_of_row w1 _ 0 _ _ R0;have f1:=frozen_of_row w1 _ 1 _ _ R0;have f2:=frozen_of_row w1 _ 2 _ _ R0;have hl0:=qa0 R0;obtain⟨v0,c0⟩:∃v,w1.cell? ⟨w.heap.size,0,none⟩=some v:=⟨_,(cell_of_row w1 _ 0 _ _ _ R0).trans (Array.getElem?_eq_getElem (by omega))⟩;obtain⟨v1,c1⟩:∃v,w1.cell? ⟨w.heap.size,1,none⟩=some v:=⟨_,(cell_of_row w1 _ 1 _ _ _ R0).trans (Array.getElem?_eq_getElem (by omega))⟩;obtain⟨v2,c2⟩:∃v,w1.cell? ⟨w.heap.size,2,none⟩=some v:=⟨_,(cell_of_row w1 _ 2 _ _ _ R0).trans (Array.getElem?_eq_getElem (by omega))⟩;have HR0:=hid R0;clear hw1 hb1 R0;go_wp2_with fail;refine(L1.out w1).mono ?_;rintro e w2⟨rfl,he⟩;rw[he];clear he;go_wp2_with fail;refine(L2.out w1).mono ?_;rintro e w3⟨rfl,he⟩;rw[he];clear he;go_wp2_with fail;refine(L3.out w1).mono ?_;rintro e w4⟨rfl,he⟩;rw[he];clear he;go_wp2_with fail;refine bodyPost_ret (v:=.agg #[.int .i64 (18+8*(k1:Int)),.int .i64 (2+(k2:Int)),.int .i64 (k3:Int)]) (by simp[results,results11,go_sem,c0,c1,c2]) rfl ⟨rfl,?_⟩;exact(((HB1.out.setCell (Nat.le_refl _) _).setCell (Nat.le_refl _) _).setCell (Nat.le_refl _) _)
theorem qhp(n:Int)(w:World):Calls prog 51 #[.int .i64 n] w λe w'=>∃s,e=.returned (.string s)/\s.size=1/\w'=w:=by
 have L1:=hid (λW=>qd6 n 3 (by decide) (by decide) W);obtain⟨k,e1,b1⟩:=qd5 n 3 (by decide);simp only[e1]at L1;clear e1;rcases(by omega:k=0\/k=1\/k=2)with rfl|rfl|rfl
 all_goals
  go_enter func51,ntmps51;go_wp2_with fail;refine(L1.out w).mono ?_;rintro e w2⟨rfl,he⟩;rw[he];clear he;go_wp2_with fail;refine(L1.out w).mono ?_;rintro e w3⟨rfl,he⟩;rw[he];clear he;go_wp2_with fail;go_ret;exact⟨_,rfl,rfl,rfl⟩
end
section
open Go.RowKit
def qA5:Value->Nat
 | .string s=>s.size
 |_=>0
theorem qex(n:Int)(w:World):Calls prog 52 #[.int .i64 n] w λe w'=>∃s,e=.returned (.string s)/\s.size<=200/\w'=w:=by
 have L1:=hid (λW=>qd6 n 10 (by decide) (by decide) W);have L2:=hid (λx W=>qd6 x 6 (by decide) (by decide) W);obtain⟨k,e1,b1⟩:=qd5 n 10 (by decide);simp only[e1]at L1;clear e1;go_enter func52,ntmps52;go_upto_region 1 with fail;go_cut [3] (λv3 wx=>∃s,v3=.string s/\s.size=2/\wx=w)
 case first =>
  rcases(by omega:k=0\/k=1\/k=2\/k=3\/k=4\/k=5\/k=6\/k=7\/k=8\/k=9)with rfl|rfl|rfl|rfl|rfl|rfl|rfl|rfl|rfl|rfl
  all_goals
   go_wp2_with fail;refine(L1.out w).mono ?_;rintro e w2⟨rfl,he⟩;rw[he];clear he;go_wp2_with fail;refine(L1.out w).mono ?_;rintro e w3⟨rfl,he⟩;rw[he];clear he;go_wp2_with fail;go_meet;exact⟨_,rfl,rfl,rfl⟩
 obtain⟨s,rfl,hs,hwc⟩:=hcut;rw[hwc];clear hwc L1;go_wp2_with fail;refine(L2.out _ w).mono ?_;rintro e w2⟨rfl,he⟩;rw[he];clear he;generalize low _ 6=v6;rcases Classical.em (v6=0)with rfl|hne
 · go_wp2_with fail
   go_loopw [3] (λv3 wr=>∃s,v3=.string s/\2<=s.size/\s.size<=200/\wr=w) (λv3 _=>200-qA5 v3)
   case atStart=>exact⟨s,rfl,by omega,by omega,rfl⟩
   case round =>
    obtain⟨s,rfl,h2,h3,hwr⟩:=hrel;rw[hwr];clear hwr;by_cases hlt:s.size<100
    · have hi:(s.size:Int)<100:=by omega
      have hcat:s.size+s.size<=9223372036854775807:=by omega
      go_wp2_with fail;refine⟨⟨_,rfl,?_,?_,trivial⟩,?_⟩
      · rw[ByteArray.size_append];omega
      · rw[ByteArray.size_append];omega
      · show 200-(s++s).size<200-s.size
        rw[ByteArray.size_append];omega
    · have hi:¬(s.size:Int)<100:=by omega
      go_wp2_with fail;go_ret;exact⟨s,rfl,h3,rfl⟩
 · have hd:decide (v6=0)=false:=decide_eq_false hne
   go_wp2_with fail;go_ret;exact⟨s,rfl,by omega,rfl⟩
structure qem where
 dn:Int
 t:Int
 a:Int
 b:Int
 kA:Option Addr
 kn:Nat
 kc:Nat
def qem.enc(x:qem):List Value:=[.int .i64 x.dn,.int .i64 x.t,.int .i64 x.a,.int .i64 x.b,.slice x.kA x.kn x.kc]
theorem qem.enc_len(x:qem):x.enc.length=5:=rfl
theorem Arr.pick{w:World}{B:Nat}{A:Option Addr}{l:List qem}(h:Arr qem.enc 5 w B A l){i:Nat}(hi:i<l.length):∃b off,A=some ⟨b,off,none⟩/\b<B/\w.cell? ⟨b,off+i*5,none⟩=some (.int .i64 l[i].dn)/\w.cell? ⟨b,off+i*5+1,none⟩=some (.int .i64 l[i].t)/\w.cell? ⟨b,off+i*5+2,none⟩=some (.int .i64 l[i].a)/\w.cell? ⟨b,off+i*5+3,none⟩=some (.int .i64 l[i].b)/\w.cell? ⟨b,off+i*5+4,none⟩=some (.slice l[i].kA l[i].kn l[i].kc):=by
 rcases h with h|⟨b,off,hA,hb,hc⟩
 · subst h;exact absurd hi (Nat.not_lt_zero _)
 · exact⟨b,off,hA,hb,hc i hi 0 _ rfl,hc i hi 1 _ rfl,hc i hi 2 _ rfl,hc i hi 3 _ rfl,hc i hi 4 _ rfl⟩
def qrb(n most:Int)(w:World)(e:Ending)(w':World):Prop:=∃r,e=.returned (.bool r)/\w'=w/\(r=false->n<=most)
theorem qso(l:List qem)(A:Option Addr)(c:Nat)(most:Int)(w:World)(hA:Arr qem.enc 5 w w.heap.size A l)(_hc:l.length<=c)(hm:c<=9223372036854775807):Calls prog 9 #[.slice A l.length c,.int .i64 most] w (qrb l.length most w):=by
 have HA:=hid hA;clear hA;go_enter func9,ntmps9;rcases Classical.em (most<(l.length:Int))with hlt|hlt
 · have hd:decide (most<(l.length:Int))=true:=decide_eq_true hlt
   go_wp2_with fail;go_ret;exact⟨true,rfl,rfl,λe=>by cases e⟩
 · have hd:decide (most<(l.length:Int))=false:=decide_eq_false hlt
   go_wp2_with fail;go_loopw [5] (λv5 wr=>∃k:Nat,k<=l.length/\v5=.int .i64 k/\wr=w) (λv5 _=>l.length-(intOf v5).toNat)
   case atStart=>exact⟨0,by omega,rfl,rfl⟩
   case round =>
    obtain⟨k,hk,rfl,hwr⟩:=hrel;rw[hwr];clear hwr hd;by_cases hkl:k<l.length
    · have hki:(k:Int)<(l.length:Int):=by omega
      obtain⟨b,off,rfl,hB,c0,c1,c2,c3,c4⟩:=HA.out.pick hkl;clear c0 c1 c2 c3;rcases Classical.em ((60:Int)<(l[k].kn:Int))with h6|h6
      · have hd6:decide ((60:Int)<(l[k].kn:Int))=true:=decide_eq_true h6
        go_wp2_with fail;go_ret;exact⟨true,rfl,rfl,λe=>by cases e⟩
      · have hd6:decide ((60:Int)<(l[k].kn:Int))=false:=decide_eq_false h6
        go_wp2_with fail;exact⟨⟨k+1,by omega,by go_num,trivial⟩,by show l.length-((k:Int)+1).toNat<l.length-(k:Int).toNat;omega⟩
    · have hki:¬(k:Int)<(l.length:Int):=by omega
      go_wp2_with fail;go_ret;exact⟨false,rfl,rfl,λ_=>by omega⟩
end
section
open Go.RowKit
structure qd2(w:World)(lo:Nat)(cl:qa7)(G:List qa7):Prop where
 inn:qbr w w.heap.size cl G
 sm:qi7 cl
 gr:G.length<=3/\(∀x∈G,qi7 x)/\Flat G
 g1:cl.kind=7->1<=G.length
 kd:cl.kind=1\/cl.kind=2\/cl.kind=3\/cl.kind=4\/cl.kind=5\/cl.kind=7\/cl.kind=8
 new:G=[]\/∃x off,cl.gA=some ⟨x,off,none⟩/\lo<=x
def quu(w:World)(e:Ending)(w':World):Prop:=∃cl G,e=.returned (qbz cl)/\qd2 w' w.heap.size cl G/\Below w.heap.size w w'
theorem qd2.single{w:World}{lo:Nat}{kind:Int}{key val:ByteArray}(h1:key.size<=1000)(h2:val.size<=1000)(hk:kind=1\/kind=2\/kind=3\/kind=4\/kind=5\/kind=8):qd2 w lo ⟨kind,key,val,ByteArray.empty,none,0,0⟩ []:=
 ⟨⟨Arr.nil,rfl,Nat.le_refl _,Nat.zero_le _⟩,⟨h1,h2⟩,⟨Nat.zero_le _,λ_ h=>(by cases h),λ_ h=>(by cases h)⟩,λ(e:kind=7)=>by omega,by show kind=1\/_ ;rcases hk with h|h|h|h|h|h <;> simp[h],.inl rfl⟩
theorem qzl{w:World}{b:Nat}{t:TypeId}{cur:Array Value}(h:w.heap[b]? =some (.cells cur t (0,0)))(hs:cur.size=5):(∀o,w.frozen? ⟨b,o,none⟩=false)/\∃v0 v1 v2 v3 v4,w.cell? ⟨b,0,none⟩=some v0/\w.cell? ⟨b,1,none⟩=some v1/\w.cell? ⟨b,2,none⟩=some v2/\w.cell? ⟨b,3,none⟩=some v3/\w.cell? ⟨b,4,none⟩=some v4:=
 ⟨λo=>frozen_of_row w b o _ _ h,_,_,_,_,_,(cell_of_row w b 0 _ _ _ h).trans (Array.getElem?_eq_getElem (by omega)),(cell_of_row w b 1 _ _ _ h).trans (Array.getElem?_eq_getElem (by omega)),(cell_of_row w b 2 _ _ _ h).trans (Array.getElem?_eq_getElem (by omega)),(cell_of_row w b 3 _ _ _ h).trans (Array.getElem?_eq_getElem (by omega)),(cell_of_row w b 4 _ _ _ h).trans (Array.getElem?_eq_getElem (by omega))⟩
theorem qej:ByteArray.empty.size<=1000:=by decide
theorem qo3{w:World}{p:Nat}{x:qa7}{ty:TypeId}(h:w.heap[p]? =some (.cells x.enc.toArray ty (0,0))):Arr qa7.enc 5 w w.heap.size (some ⟨p,0,none⟩) [x]:=.inr ⟨p,0,rfl,qa0 h,λi hi j v hv=>by
 have:i=0:=by simp at hi;exact hi
 subst this
 rw[show 0+0*5+j=j by omega]
 exact(cell_of_row w p j _ _ _ h).trans (by rw[List.getElem?_toArray];exact hv)⟩
def g2(s1 u1 s2:ByteArray):List qa7:=[⟨2,s1,u1,ByteArray.empty,none,0,0⟩,⟨3,s2,ByteArray.empty,ByteArray.empty,none,0,0⟩]
theorem qt0{w1 w7 W wP:World}{A':Option Addr}{c':Nat}{s1 u1 s2:ByteArray}(hb:Below w7.heap.size w7 W)(hgr:W.grownBy wP (qa8 (some ⟨w1.heap.size,0,none⟩) 2)){x:qa7}(hown:Own qa7.enc 40 5 wP w1.heap.size A' c' (g2 s1 u1 s2++[x]))(hloc:A'=some ⟨w1.heap.size,0,none⟩/\c'=2\/∃y,A'=some ⟨y,0,none⟩/\W.heap.size<=y)
 (h2:w7.heap[w1.heap.size+1]? =some (.cells #[.int .i64 7,.string ByteArray.empty,.string ByteArray.empty,.string ByteArray.empty,.slice (some ⟨w1.heap.size,0,none⟩) 2 2] 40 (0,0))) (h7:Below w1.heap.size w1 w7) (_u:ByteArray):
 wP.cell? ⟨w1.heap.size+1,4,none⟩=some (.slice (some ⟨w1.heap.size,0,none⟩) 2 2)/\(∀o,wP.frozen? ⟨w1.heap.size+1,o,none⟩=false)/\w1.heap.size+1<wP.heap.size /\
 (wP.setCell ⟨w1.heap.size+1,4,none⟩ (.slice A' (g2 s1 u1 s2++[x]).length c')).heap[w1.heap.size+1]? =some (.cells #[.int .i64 7,.string ByteArray.empty,.string ByteArray.empty,.string ByteArray.empty,.slice A' (g2 s1 u1 s2++[x]).length c'] 40 (0,0)) /\
 Own qa7.enc 40 5 (wP.setCell ⟨w1.heap.size+1,4,none⟩ (.slice A' (g2 s1 u1 s2++[x]).length c')) w1.heap.size A' c' (g2 s1 u1 s2++[x])/\Below w1.heap.size w1 (wP.setCell ⟨w1.heap.size+1,4,none⟩ (.slice A' (g2 s1 u1 s2++[x]).length c')):=by
 have hl2:=qa0 h2;have hz:=hb.size;have hzP:=hgr.size;have hz7:=h7.size;have hrow:qa8 (some ⟨w1.heap.size,0,none⟩) 2=some w1.heap.size:=rfl;have hP:wP.heap[w1.heap.size+1]? =some (.cells #[.int .i64 7,.string ByteArray.empty,.string ByteArray.empty,.string ByteArray.empty,.slice (some ⟨w1.heap.size,0,none⟩) 2 2] 40 (0,0)):=
  ((hgr.block _ (by omega) (λe=>by rw[hrow]at e;have:=Option.some.inj e;omega)).trans (hb.block _ hl2)).trans h2
 refine⟨cell_of_row wP _ 4 _ _ _ hP,λo=>frozen_of_row wP _ o _ _ hP,qa0 hP,heap_setCell_same _ _ 4 _ _ _ hP,?_,?_⟩
 · refine hown.keep λb off hA _ _=>Below.heap_setCell _ _ _ _ λe=>?_
   have e:b=w1.heap.size+1:=e;rcases hloc with⟨h,_⟩|⟨y,h,hy⟩
   · rw[h]at hA;cases hA;omega
   · rw[h]at hA;cases hA;omega
 · have b7:Below w1.heap.size w1 wP:=⟨hgr.os.trans (hb.os.trans h7.os),hgr.tape.trans (hb.tape.trans h7.tape),hgr.output.trans (hb.output.trans h7.output),by omega,λi hi=>((hgr.block i (by omega) (λe=>by rw[hrow]at e;have:=Option.some.inj e;omega)).trans (hb.block i (by omega))).trans (h7.block i hi)⟩
   exact b7.setCell (by show w1.heap.size<=w1.heap.size+1;omega) _
theorem qx4(x y:Int)(w:World):Calls prog 33 #[.int .i64 x,.int .i64 y] w (quu w):=by
 have L1:=hid (λW=>qd6 x 9 (by decide) (by decide) W);obtain⟨k,e1,b1⟩:=qd5 x 9 (by decide);simp only[e1]at L1;clear e1;have L2:=hid (λW=>qd6 y 3 (by decide) (by decide) W);obtain⟨k2,e2,b2⟩:=qd5 y 3 (by decide);simp only[e2]at L2;clear e2;have hi2:IntKind.i64.wrap ((k2:Int)+1)=(k2:Int)+1:=Go.IntWalk.i64_in _ (by omega);go_enter func33,ntmps33;go_upto_region 1 with fail;generalize hw1:World.alloc _ _=w1;have hb1:Below w.heap.size w w1:=by rw[<-hw1];exact(Below.refl _ _).alloc (Nat.le_refl _) _
 obtain⟨cur,R0,hc⟩:∃cur,w1.heap[w.heap.size]? =some (.cells cur 40 (0,0))/\cur.size=5:=⟨_,by rw[<-hw1];exact qaq _ _,rfl⟩;have HB1:=hid hb1;have hl0:=qa0 R0;obtain⟨fz,v0,v1,v2,v3,v4,c0,c1,c2,c3,c4⟩:=qzl R0 hc;have f0:=fz 0;have f1:=fz 1;have f2:=fz 2;have f3:=fz 3;have f4:=fz 4;have HRr:=hid R0;have hcs:=hc;clear hw1 hb1 R0 hc fz;go_wp2_with fail;refine(L1.out w1).mono ?_;rintro e w2⟨rfl,he⟩;rw[he];clear he L1;rcases(by omega:k=0\/k=1\/k=2\/k=3\/k=4\/k=5\/k=6\/k=7\/k=8)with hk|hk|hk|hk|hk|hk|hk|hk|hk
 iterate 3
  · rw[hk]
    go_wp2_with fail;refine(qhp _ w1).mono ?_;rintro e w3⟨s,rfl,hs,he⟩;rw[he];clear he;go_wp2_with fail;refine(qex _ w1).mono ?_;rintro e w4⟨u,rfl,hu,he⟩;rw[he];clear he;go_wp2_with fail;refine bodyPost_ret (v:=qbz ⟨2,s,u,ByteArray.empty,none,0,0⟩) (by simp[results,results33,go_sem,qbz,c0,c1,c2,c3,c4];try rfl) rfl ⟨_,[],rfl,qd2.single (by omega) (by omega) (by decide),?_⟩;exact(((((HB1.out.setCell (Nat.le_refl _) _).setCell (Nat.le_refl _) _).setCell (Nat.le_refl _) _).setCell (Nat.le_refl _) _).setCell (Nat.le_refl _) _)
 · rw[hk]
   go_wp2_with fail;refine(qhp _ w1).mono ?_;rintro e w3⟨s,rfl,hs,he⟩;rw[he];clear he;go_wp2_with fail;refine bodyPost_ret (v:=qbz ⟨1,s,ByteArray.empty,ByteArray.empty,none,0,0⟩) (by simp[results,results33,go_sem,qbz,c0,c1,c2,c3,c4];try rfl) rfl ⟨_,[],rfl,qd2.single (by first|omega|decide) (by first|omega|decide) (by decide),?_⟩;exact(((((HB1.out.setCell (Nat.le_refl _) _).setCell (Nat.le_refl _) _).setCell (Nat.le_refl _) _).setCell (Nat.le_refl _) _).setCell (Nat.le_refl _) _)
 · rw[hk]
   go_wp2_with fail;refine(qhp _ w1).mono ?_;rintro e w3⟨s,rfl,hs,he⟩;rw[he];clear he;go_wp2_with fail;refine bodyPost_ret (v:=qbz ⟨3,s,ByteArray.empty,ByteArray.empty,none,0,0⟩) (by simp[results,results33,go_sem,qbz,c0,c1,c2,c3,c4];try rfl) rfl ⟨_,[],rfl,qd2.single (by first|omega|decide) (by first|omega|decide) (by decide),?_⟩;exact(((((HB1.out.setCell (Nat.le_refl _) _).setCell (Nat.le_refl _) _).setCell (Nat.le_refl _) _).setCell (Nat.le_refl _) _).setCell (Nat.le_refl _) _)
 · rw[hk]
   go_wp2_with fail;refine(qex _ w1).mono ?_;rintro e w4⟨u,rfl,hu,he⟩;rw[he];clear he;go_wp2_with fail;refine bodyPost_ret (v:=qbz ⟨4,ByteArray.empty,u,ByteArray.empty,none,0,0⟩) (by simp[results,results33,go_sem,qbz,c0,c1,c2,c3,c4];try rfl) rfl ⟨_,[],rfl,qd2.single (by first|omega|decide) (by first|omega|decide) (by decide),?_⟩;exact(((((HB1.out.setCell (Nat.le_refl _) _).setCell (Nat.le_refl _) _).setCell (Nat.le_refl _) _).setCell (Nat.le_refl _) _).setCell (Nat.le_refl _) _)
 · rw[hk]
   go_wp2_with fail;refine bodyPost_ret (v:=qbz ⟨5,ByteArray.empty,ByteArray.empty,ByteArray.empty,none,0,0⟩) (by simp[results,results33,go_sem,qbz,c0,c1,c2,c3,c4];try rfl) rfl ⟨_,[],rfl,qd2.single (by first|omega|decide) (by first|omega|decide) (by decide),?_⟩;exact(((((HB1.out.setCell (Nat.le_refl _) _).setCell (Nat.le_refl _) _).setCell (Nat.le_refl _) _).setCell (Nat.le_refl _) _).setCell (Nat.le_refl _) _)
 · rw[hk]
   go_wp2_with fail;refine bodyPost_ret (v:=qbz ⟨8,ByteArray.empty,ByteArray.empty,ByteArray.empty,none,0,0⟩) (by simp[results,results33,go_sem,qbz,c0,c1,c2,c3,c4];try rfl) rfl ⟨_,[],rfl,qd2.single (by first|omega|decide) (by first|omega|decide) (by decide),?_⟩;exact(((((HB1.out.setCell (Nat.le_refl _) _).setCell (Nat.le_refl _) _).setCell (Nat.le_refl _) _).setCell (Nat.le_refl _) _).setCell (Nat.le_refl _) _)
 · rw[hk]
   go_wp2_with fail;refine(qhp _ w1).mono ?_;rintro e w3⟨s1,rfl,hs1,he⟩;rw[he];clear he;go_wp2_with fail;refine(qex _ w1).mono ?_;rintro e w4⟨u1,rfl,hu1,he⟩;rw[he];clear he;go_wp2_with fail;refine(L2.out w1).mono ?_;rintro e w5⟨rfl,he⟩;rw[he];clear he;go_wp2_with fail;refine(qhp _ w1).mono ?_;rintro e w6⟨s2,rfl,hs2,he⟩;rw[he];clear he;go_upto_region 17 with fail;generalize hw7:World.alloc _ _=w7;have hb7:Below w1.heap.size w1 w7:=by rw[<-hw7];exact((Below.refl _ _).alloc (Nat.le_refl _) _).alloc (by simp) _
   have R2:w7.heap[w1.heap.size+1]? =some (.cells #[.int .i64 7,.string ByteArray.empty,.string ByteArray.empty,.string ByteArray.empty,.slice (some ⟨w1.heap.size,0,none⟩) 2 2] 40 (0,0)):=by rw[<-hw7];exact(qa2 _ _ _).trans (if_pos (by simp))
   have R1:w7.heap[w1.heap.size]? =some (.cells ((g2 s1 u1 s2).flatMap qa7.enc).toArray 40 (0,0)):=by rw[<-hw7];exact(Below.heap_alloc _ _ _ (by simp)).trans ((qa2 _ _ _).trans (if_pos rfl))
   have HB7:=hid hb7;have HR1:=hid R1;have HR2:=hid R2;clear hw7 hb7 R1 R2 c0 c1 c2 c3 c4 f0 f1 f2 f3 f4 L2;have own7:Own qa7.enc 40 5 w7 w1.heap.size (some ⟨w1.heap.size,0,none⟩) 2 (g2 s1 u1 s2):=⟨Nat.le_refl _,by decide,.inr ⟨w1.heap.size,0,_,rfl,Nat.le_refl _,HR1.out,by simp[g2,qa7.enc],λj u hu=>by rw[Nat.zero_add,List.getElem?_toArray];exact hu⟩⟩;have HO7:=hid own7;have hz7:w1.heap.size+1<w7.heap.size:=qa0 HR2.out;have k4:w7.cell? ⟨w1.heap.size+1,4,none⟩=some (.slice (some ⟨w1.heap.size,0,none⟩) 2 2):=cell_of_row w7 _ 4 _ _ _ HR2.out;have fk4:=frozen_of_row w7 _ 4 _ _ HR2.out;have HOWN:=hid (λW (hW:Below w7.heap.size w7 W)=>own7.keep (w':=W) λb _ _ _ hb=>hW.block b hb);clear own7;have HG7:=hid (show 1<=(g2 s1 u1 s2).length/\(g2 s1 u1 s2).length<=3/\(∀x∈g2 s1 u1 s2,qi7 x)/\Flat (g2 s1 u1 s2)from⟨by simp[g2],by simp[g2],λx hx=>by
    simp only[g2,List.mem_cons,List.not_mem_nil,or_false]at hx
    rcases hx with rfl|rfl
    · exact⟨by show s1.size<=1000;omega,by show u1.size<=1000;omega⟩
    · exact⟨by show s2.size<=1000;omega,qej⟩,λx hx=>by
    simp only[g2,List.mem_cons,List.not_mem_nil,or_false]at hx
    rcases hx with rfl|rfl
    · exact⟨rfl,Nat.zero_le _⟩
    · exact⟨rfl,Nat.zero_le _⟩⟩)
   rcases Bool.eq_false_or_eq_true (bits BinOp.and IntKind.i64 y 1==0)with hb|hb
   · go_upto_region 18 with fail
     go_cut [] (λwx=>∃A9 n9 G9,wx.heap[w1.heap.size+1]? =some (.cells #[.int .i64 7,.string ByteArray.empty,.string ByteArray.empty,.string ByteArray.empty,.slice A9 G9.length n9] 40 (0,0))/\Own qa7.enc 40 5 wx w1.heap.size A9 n9 G9/\(1<=G9.length/\G9.length<=3/\(∀x∈G9,qi7 x)/\Flat G9)/\Below w1.heap.size w1 wx)
     case first =>
      obtain⟨i0,hi,hz0,hz1,hz2⟩:=info_parts qlo;have HI:=hid hi;have HZ0:=hid hz0;have HZ1:=hid hz1;have HZ2:=hid hz2;clear hi hz0 hz1 hz2;have k4z:∀o,(w7.alloc o).cell? ⟨w1.heap.size+1,4,none⟩=some (.slice (some ⟨w1.heap.size,0,none⟩) 2 2):=λo=>((Below.refl w7.heap.size w7).alloc (Nat.le_refl _) o |>.cell (p:=⟨w1.heap.size+1,4,none⟩) hz7).trans k4
      have k4y:∀o,(w7.drew.alloc o).cell? ⟨w1.heap.size+1,4,none⟩=some (.slice (some ⟨w1.heap.size,0,none⟩) 2 2):=λo=>((Below.refl w7.heap.size w7).drew.alloc (Nat.le_refl _) o |>.cell (p:=⟨w1.heap.size+1,4,none⟩) hz7).trans k4
      refine wp_region_noPanic ?_;refine wp_region_held_drew (S:=(λ_=>True)) (by kernel_rfl) ?_ (λhHeld=>?_)
      · (try dsimp only) <;> trivial
      (refine wpAnyH_take (i:=0) (v:=?_) rfl (by kernel_rfl) (by kernel_rfl) (by kernel_rfl) (λ_ _ _ h=>h) (Or.inl ⟨by rfl,?_⟩) (by assumption) ?_;rotate_left;(focus(intro w hSw;(try dsimp only at hSw);go_simp;(try with_reducible rfl)));(try simp only[List.getElem_toArray,List.getElem_cons_zero,Act.put,List.setIfInBounds_toArray,List.set_cons_zero,List.set_cons_succ]));(refine wpAnyH_take (i:=2) (v:=?_) rfl (by kernel_rfl) (by kernel_rfl) (by kernel_rfl) (λ_ _ _ h=>h) (Or.inl ⟨by rfl,?_⟩) (by assumption) ?_;rotate_left;(focus(intro w hSw;(try dsimp only at hSw);go_simp;(try with_reducible rfl)));(try simp only[List.getElem_toArray,List.getElem_cons_succ,List.getElem_cons_zero,Act.put,List.setIfInBounds_toArray,List.set_cons_zero,List.set_cons_succ]));refine wpAnyH_ready (rs:=[1,3]) (by kernel_rfl) (by simp) ?_;refine AllReadyH.cons rfl (λK hK=>?_) (AllReadyH.cons rfl (λK hK=>?_) AllReadyH.nil);rw[if_pos (by rfl)];go_simp;(refine hK.out _ _ ?_ (λhHeld=>?_);(focus((try dsimp only) <;> assumption));clear hK K;(try simp only[List.getElem_toArray,List.getElem_cons_succ,List.getElem_cons_zero,Act.put,List.setIfInBounds_toArray,List.set_cons_zero,List.set_cons_succ]));refine wpAnyH_ready (rs:=[3]) (by kernel_rfl) (by simp) ?_;refine AllReadyH.cons rfl (λK hK=>?_) AllReadyH.nil;all_goals(rw[if_pos (by rfl)];go_simp;(go_at_call 52;refine(qex _ _).mono ?_;rintro e w8⟨u,rfl,hu,he⟩;rw[he];clear he);go_wp2_with fail;refine hK.out _ _ ?_ (λhHeld=>?_);(focus((try dsimp only) <;> trivial));clear hK K;(try simp only[List.getElem_toArray,List.getElem_cons_succ,List.getElem_cons_zero,Act.put,List.setIfInBounds_toArray,List.set_cons_zero,List.set_cons_succ]);refine wpAnyH_take (i:=4) (v:=?_) rfl (by kernel_rfl) (by kernel_rfl) (by kernel_rfl) (λ_ _ _ h=>h) (Or.inl ⟨by rfl,?_⟩) (by assumption) ?_;rotate_left;(focus(intro w hSw;(try dsimp only at hSw);go_simp;(try with_reducible rfl)));(try simp only[List.getElem_toArray,List.getElem_cons_succ,List.getElem_cons_zero,Act.put,List.setIfInBounds_toArray,List.set_cons_zero,List.set_cons_succ]))
      refine wpAnyH_ready (rs:=[5]) (by kernel_rfl) (by simp) ?_;refine AllReadyH.cons rfl (λK hK=>?_) AllReadyH.nil;rotate_left;refine wpAnyH_ready (rs:=[1,5]) (by kernel_rfl) (by simp) ?_;refine AllReadyH.cons rfl (λK hK=>?_) (AllReadyH.cons rfl (λK hK=>?_) AllReadyH.nil);rw[if_pos (by rfl)];go_simp;(refine hK.out _ _ ?_ (λhHeld=>?_);(focus((try dsimp only) <;> assumption));clear hK K;(try simp only[List.getElem_toArray,List.getElem_cons_succ,List.getElem_cons_zero,Act.put,List.setIfInBounds_toArray,List.set_cons_zero,List.set_cons_succ]));refine wpAnyH_ready (rs:=[5]) (by kernel_rfl) (by simp) ?_;refine AllReadyH.cons rfl (λK hK=>?_) AllReadyH.nil;all_goals(rw[if_pos (by rfl)];go_simp;refine hK.out _ _ ?_ (λhHeld=>?_);(focus((try dsimp only) <;> trivial));clear hK K;(try simp only[List.getElem_toArray,List.getElem_cons_succ,List.getElem_cons_zero,Act.put,List.setIfInBounds_toArray,List.set_cons_zero,List.set_cons_succ]))
      rotate_left;refine wpAnyH_ready (rs:=[1]) (by kernel_rfl) (by simp) ?_;refine AllReadyH.cons rfl (λK hK=>?_) AllReadyH.nil;rw[if_pos (by rfl)];go_simp;(refine hK.out _ _ ?_ (λhHeld=>?_);(focus((try dsimp only) <;> assumption));clear hK K;(try simp only[List.getElem_toArray,List.getElem_cons_succ,List.getElem_cons_zero,Act.put,List.setIfInBounds_toArray,List.set_cons_zero,List.set_cons_succ]));all_goals
       refine wpAnyH_ready (rs:=[6]) (by kernel_rfl) (by simp) ?_;refine AllReadyH.cons rfl (λK hK=>?_) AllReadyH.nil;(refine qbe (l:=g2 s1 u1 s2) (m:=[(⟨4,ByteArray.empty,u,ByteArray.empty,none,0,0⟩:qa7)]) (A:=some ⟨w1.heap.size,0,none⟩) (c:=2) (lo:=w1.heap.size) _ rfl (.tmp 56) (.tmp 60) 38 rfl i0 _ 80 underlying38 HI.out HZ0.out HZ1.out HZ2.out rfl (by decide) qa7.enc_len qa7.enc_one (by first|rfl|simp[Act.eval]) (HOWN.out _ (by first|exact(by with_reducible repeat(first|exact Below.refl _ _|assumption|refine Below.drew ?_|refine qa1 ?_ _|refine Below.alloc ?_ (by first|omega|simp <;> omega) _|refine Below.setCell ?_ (by first|omega|simp <;> omega) _)))) 1 (by first|rfl|simp[Act.eval]) (qo3 (by first|exact(qa2 _ _ _).trans (if_pos rfl)|exact(show(World.drew _).heap[_]? =_ from(qa2 _ _ _).trans (if_pos rfl)))) (by show 2+1<=maxLen;decide) (by simp[g2]) (by simp;omega) ?_;intro A' c' wP hown hgr hloc;have HAP:=hid (qt0 (show Below w7.heap.size w7 _ from(by with_reducible repeat(first|exact Below.refl _ _|assumption|refine Below.drew ?_|refine qa1 ?_ _|refine Below.alloc ?_ (by first|omega|simp <;> omega) _|refine Below.setCell ?_ (by first|omega|simp <;> omega) _))) hgr hown hloc HR2.out HB7.out u);have k4P:=HAP.out.1;have fzP:=HAP.out.2.1;have hlP:=HAP.out.2.2.1;clear hown hgr hloc);(refine hK.out _ _ ?_ (λhHeld=>?_);(focus((try dsimp only) <;> trivial));clear hK K;(try simp only[List.getElem_toArray,List.getElem_cons_succ,List.getElem_cons_zero,Act.put,List.setIfInBounds_toArray,List.set_cons_zero,List.set_cons_succ]));(refine wpAnyH_take (i:=7) (v:=?_) rfl (by kernel_rfl) (by kernel_rfl) (by kernel_rfl) (λ_ _ _ h=>h) (Or.inl ⟨by rfl,?_⟩) (by assumption) ?_;rotate_left;(focus(intro w hSw;(try dsimp only at hSw);go_simp;(try with_reducible rfl)));(try simp only[List.getElem_toArray,List.getElem_cons_succ,List.getElem_cons_zero,Act.put,List.setIfInBounds_toArray,List.set_cons_zero,List.set_cons_succ]));refine wpAnyH_ready (rs:=[8]) (by kernel_rfl) (by simp) ?_;refine AllReadyH.cons rfl (λK hK=>?_) AllReadyH.nil;rw[if_pos (by rfl)];go_simp;(refine hK.out _ _ ?_ (λhHeld=>?_);(focus((try dsimp only) <;> trivial));clear hK K;(try simp only[List.getElem_toArray,List.getElem_cons_succ,List.getElem_cons_zero,Act.put,List.setIfInBounds_toArray,List.set_cons_zero,List.set_cons_succ]));refine wpAnyH_done (by kernel_rfl) ?_ _;refine NoPanic.normal ?_;go_wp2_with fail;go_meet;refine⟨_,_,_,HAP.out.2.2.2.1,HAP.out.2.2.2.2.1,?_,HAP.out.2.2.2.2.2⟩;obtain⟨q1,q2,q3,q4⟩:=HG7.out;refine⟨by simp,by simp[g2],λx hx=>?_,λx hx=>?_⟩
       · rcases List.mem_append.1 hx with hx|hx
         · exact q3 x hx
         · rw[List.mem_singleton.1 hx];exact⟨qej,by show u.size<=1000;omega⟩
       · rcases List.mem_append.1 hx with hx|hx
         · exact q4 x hx
         · rw[List.mem_singleton.1 hx];exact⟨rfl,Nat.zero_le _⟩
     obtain⟨A9,n9,G9,R9,O9,g9,b9⟩:=hcut;obtain⟨w9,hw9⟩:∃x,x=wc:=⟨_,rfl⟩;subst hw9;have HO9:=hid O9;have HG9:=hid g9;have HB9:=hid b9;clear O9 g9 b9 k4 fk4;have c0:w9.cell? ⟨w1.heap.size+1,0,none⟩=some (.int .i64 7):=cell_of_row w9 _ 0 _ _ _ R9;have c1:w9.cell? ⟨w1.heap.size+1,1,none⟩=some (.string ByteArray.empty):=cell_of_row w9 _ 1 _ _ _ R9;have c2:w9.cell? ⟨w1.heap.size+1,2,none⟩=some (.string ByteArray.empty):=cell_of_row w9 _ 2 _ _ _ R9;have c3:w9.cell? ⟨w1.heap.size+1,3,none⟩=some (.string ByteArray.empty):=cell_of_row w9 _ 3 _ _ _ R9;have c4:w9.cell? ⟨w1.heap.size+1,4,none⟩=some (.slice A9 G9.length n9):=cell_of_row w9 _ 4 _ _ _ R9;obtain⟨fz,v0,v1,v2,v3,v4,d0,d1,d2,d3,d4⟩:=qzl ((HB9.out.block _ hl0).trans HRr.out) hcs;have f0:=fz 0;have f1:=fz 1;have f2:=fz 2;have f3:=fz 3;have f4:=fz 4;clear fz R9;go_wp2_with fail;have hlr:w.heap.size<w1.heap.size:=hl0;refine bodyPost_ret (v:=qbz ⟨7,ByteArray.empty,ByteArray.empty,ByteArray.empty,A9,G9.length,n9⟩) (by simp[results,results33,go_sem,qbz,d0,d1,d2,d3,d4];try rfl) rfl ⟨_,G9,rfl,⟨⟨?_,rfl,HO9.out.1,HO9.out.2.1⟩,⟨qej,qej⟩,HG9.out.2,λ_=>HG9.out.1,.inr (.inr (.inr (.inr (.inr (.inl rfl))))),?_⟩,?_⟩
     · exact(((((HO9.out.setCell (p:=⟨w.heap.size,0,none⟩) hlr _).setCell (p:=⟨w.heap.size,1,none⟩) hlr _).setCell (p:=⟨w.heap.size,2,none⟩) hlr _).setCell (p:=⟨w.heap.size,3,none⟩) hlr _).setCell (p:=⟨w.heap.size,4,none⟩) hlr _).arr qa7.enc_len
     · rcases HO9.out.lt with h0|⟨x,off,hA,hx,_⟩
       · exact .inl (List.eq_nil_of_length_eq_zero (by have:=HO9.out.len;omega))
       · exact .inr ⟨x,off,hA,by omega⟩
     · exact(((((HB1.out.trans (HB9.out.mono (by omega))).setCell (Nat.le_refl _) _).setCell (Nat.le_refl _) _).setCell (Nat.le_refl _) _).setCell (Nat.le_refl _) _).setCell (Nat.le_refl _) _
   · obtain⟨A9,n9,G9,R9,O9,g9,b9⟩:∃A9 n9 G9,w7.heap[w1.heap.size+1]? =some (.cells #[.int .i64 7,.string ByteArray.empty,.string ByteArray.empty,.string ByteArray.empty,.slice A9 G9.length n9] 40 (0,0))/\Own qa7.enc 40 5 w7 w1.heap.size A9 n9 G9/\(1<=G9.length/\G9.length<=3/\(∀x∈G9,qi7 x)/\Flat G9)/\Below w1.heap.size w1 w7:=⟨_,2,g2 s1 u1 s2,HR2.out,HO7.out,HG7.out,HB7.out⟩
     have HO9:=hid O9;have HG9:=hid g9;have HB9:=hid b9;clear O9 g9 b9 k4 fk4;have c0:w7.cell? ⟨w1.heap.size+1,0,none⟩=some (.int .i64 7):=cell_of_row w7 _ 0 _ _ _ R9;have c1:w7.cell? ⟨w1.heap.size+1,1,none⟩=some (.string ByteArray.empty):=cell_of_row w7 _ 1 _ _ _ R9;have c2:w7.cell? ⟨w1.heap.size+1,2,none⟩=some (.string ByteArray.empty):=cell_of_row w7 _ 2 _ _ _ R9;have c3:w7.cell? ⟨w1.heap.size+1,3,none⟩=some (.string ByteArray.empty):=cell_of_row w7 _ 3 _ _ _ R9;have c4:w7.cell? ⟨w1.heap.size+1,4,none⟩=some (.slice A9 G9.length n9):=cell_of_row w7 _ 4 _ _ _ R9;obtain⟨fz,v0,v1,v2,v3,v4,d0,d1,d2,d3,d4⟩:=qzl ((HB9.out.block _ hl0).trans HRr.out) hcs;have f0:=fz 0;have f1:=fz 1;have f2:=fz 2;have f3:=fz 3;have f4:=fz 4;clear fz R9;go_wp2_with fail;have hlr:w.heap.size<w1.heap.size:=hl0;refine bodyPost_ret (v:=qbz ⟨7,ByteArray.empty,ByteArray.empty,ByteArray.empty,A9,G9.length,n9⟩) (by simp[results,results33,go_sem,qbz,d0,d1,d2,d3,d4];try rfl) rfl ⟨_,G9,rfl,⟨⟨?_,rfl,HO9.out.1,HO9.out.2.1⟩,⟨qej,qej⟩,HG9.out.2,λ_=>HG9.out.1,.inr (.inr (.inr (.inr (.inr (.inl rfl))))),?_⟩,?_⟩
     · exact(((((HO9.out.setCell (p:=⟨w.heap.size,0,none⟩) hlr _).setCell (p:=⟨w.heap.size,1,none⟩) hlr _).setCell (p:=⟨w.heap.size,2,none⟩) hlr _).setCell (p:=⟨w.heap.size,3,none⟩) hlr _).setCell (p:=⟨w.heap.size,4,none⟩) hlr _).arr qa7.enc_len
     · rcases HO9.out.lt with h0|⟨x,off,hA,hx,_⟩
       · exact .inl (List.eq_nil_of_length_eq_zero (by have:=HO9.out.len;omega))
       · exact .inr ⟨x,off,hA,by omega⟩
     · exact(((((HB1.out.trans (HB9.out.mono (by omega))).setCell (Nat.le_refl _) _).setCell (Nat.le_refl _) _).setCell (Nat.le_refl _) _).setCell (Nat.le_refl _) _).setCell (Nat.le_refl _) _
end
section
open Go.RowKit
structure EvC where
 k:Int
 t:Int
 l:Int
 cl:qa7
 kA:Option Addr
 kn:Nat
 kc:Nat
def EvC.enc(x:EvC):List Value:=evL x.k x.t x.l x.cl x.kA x.kn x.kc
theorem EvC.enc_len(x:EvC):x.enc.length=9:=rfl
theorem EvC.enc_one(x:EvC):∀u∈x.enc,u.oneCell'=true:=by
 intro u hu;simp only[EvC.enc,evL,List.mem_cons,List.not_mem_nil,or_false]at hu;rcases hu with rfl|rfl|rfl|rfl|rfl|rfl|rfl|rfl|rfl <;> rfl
theorem qza:(prog.info? 42).map (λi=>(i.zero,i.size,i.bytes))=some (some (.agg (evL 0 0 0 qig none 0 0).toArray),9,128):=by kernel_rfl
theorem qu0{ops:Array Oper}{rest:List Oper}{o:Oper}{a:Act}{Q:Exit->Act->World->Prop}(w:World)(hgd:o.guard=none)(s x:Operand)
 (ho:o.op=.call {callee:=.builtin .append,args:=#[s,x],argTypes:=#[33,33]}) {lo:Nat} {A:Option Addr} {c:Nat} {l:List EvC} (hs:a.eval s=.slice A l.length c) (own:Own EvC.enc 42 9 w lo A c l)
 {B:Nat} {A2:Option Addr} {m:List EvC} (c2:Nat) (hx:a.eval x=.slice A2 m.length c2) (arr:Arr EvC.enc 9 w B A2 m) (hb:l.length+m.length<=1000000) (hlo:lo<=w.heap.size)
 (h:∀A' c' w',Own EvC.enc 42 9 w' lo A' c' (l++m)->w.grownBy w' (qa8 A c)->(A'=A/\c'=c\/∃g,A'=some ⟨g,0,none⟩/\w.heap.size<=g)->wpList prog ops Q rest (a.put o.dst (.slice A' (l.length+m.length) c')) w'):
 wpList prog ops Q (o::rest) a w:=by
 obtain⟨i0,hi,hz0,hz1,hz2⟩:=info_parts qza;exact qar w hgd s x 33 ho i0 _ 128 underlying33 hi hz0 hz1 hz2 rfl (by decide) EvC.enc_len EvC.enc_one hs own c2 hx arr (by unfold maxLen;omega) (by omega) hlo h
theorem qfe{w:World}{p:Nat}{x:EvC}{ty:TypeId}(h:w.heap[p]? =some (.cells x.enc.toArray ty (0,0))):Arr EvC.enc 9 w w.heap.size (some ⟨p,0,none⟩) [x]:=.inr ⟨p,0,rfl,qa0 h,λi hi j v hv=>by
 have:i=0:=by simp at hi;exact hi
 subst this
 rw[show 0+0*9+j=j by omega]
 exact(cell_of_row w p j _ _ _ h).trans (by rw[List.getElem?_toArray];exact hv)⟩
theorem qde{α:Type}{enc:α->List Value}{e:TypeId}{k lo:Nat}{w W W':World}{A:Option Addr}{c:Nat}{l:List α}(ho:Own enc e k W lo A c l)(hg:W.grownBy W' (qa8 A c))(hb:Below lo w W)(hlo:lo<=W.heap.size):Below lo w W':=
 ⟨hg.os.trans hb.os,hg.tape.trans hb.tape,hg.output.trans hb.output,Nat.le_trans hb.size hg.size,λi hi=>(hg.block i (by omega) (λe=>by
  unfold qa8 at e
  split at e
  · cases e
  · rename_i h0
    rcases ho.2.2 with h|⟨b,off,cur,hA,hlb,_⟩
    · exact h0 h
    · rw[hA]at e;have:=Option.some.inj e;have h2:i=b:=this;omega)).trans (hb.block i hi)⟩
structure EvOK(q:Prop)(w:World)(lo th:Nat)(e:EvC):Prop where
 kd:e.k=1\/e.k=2\/e.k=3\/e.k=4\/e.k=5
 call:e.k=1->(∃t:Nat,e.t=(t:Int)/\t<th)/\∃G,qd2 w lo e.cl G
 step:e.k=2->∃t:Nat,e.t=(t:Int)/\t<th
 cut:e.k=5->q
def qkt(q:Prop)(th:Nat)(w:World)(e:Ending)(w':World):Prop:=∃A c es,e=.returned (.slice A es.length c)/\Arr EvC.enc 9 w' w'.heap.size A es/\es.length<=c/\c<=9223372036854775807/\es.length<=7/\Below w.heap.size w w'/\(es=[]\/∃x off,A=some ⟨x,off,none⟩/\w.heap.size<=x)/\∀v∈es,EvOK q w' w.heap.size th v
theorem EvOK.plain{q:Prop}{w:World}{lo th:Nat}{e:EvC}(h:e.k=3\/e.k=4\/(e.k=5/\q)):EvOK q w lo th e:=⟨by omega,λh1=>by omega,λh1=>by omega,λh5=>by rcases h with h|h|h <;> first|omega|exact h.2⟩
theorem EvOK.stp{q:Prop}{w:World}{lo th t:Nat}{l:Int}{cl:qa7}{kA:Option Addr}{kn kc:Nat}(ht:t<th):EvOK q w lo th ⟨2,t,l,cl,kA,kn,kc⟩:=⟨.inr (.inl rfl),λh1=>(by cases h1),λ_=>⟨t,rfl,ht⟩,λh5=>(by cases h5)⟩
theorem qgu{q:Prop}{th:Nat}{w w':World}{x:EvC}(hb:Below w.heap.size w w'){p:Nat}{ty:TypeId}(h:w'.heap[p]? =some (.cells x.enc.toArray ty (0,0)))(hp:w.heap.size<=p)(hx:EvOK q w' w.heap.size th x):qkt q th w (.returned (.slice (some ⟨p,0,none⟩) 1 1)) w':=
 ⟨some ⟨p,0,none⟩,1,[x],rfl,qfe h,Nat.le_refl _,by decide,(by show 1<=7;decide),hb,.inr ⟨p,0,rfl,hp⟩,λv hv=>by rw[List.mem_singleton.1 hv];exact hx⟩
theorem qp6{q:Prop}{th:Nat}{w w1 w':World}{A:Option Addr}{c:Nat}{es:List EvC}(ho:Own EvC.enc 42 9 w' w1.heap.size A c es)(h0:w.heap.size<=w1.heap.size)(hb:Below w.heap.size w w')(hl:es.length<=7)(hx:∀v∈es,EvOK q w' w.heap.size th v):qkt q th w (.returned (.slice A es.length c)) w':=
 ⟨A,c,es,rfl,ho.arr EvC.enc_len,ho.1,ho.2.1,hl,hb,by
  rcases ho.lt with h|⟨x,off,hA,hx,_⟩
  · exact .inl (List.eq_nil_of_length_eq_zero (by have:=ho.1;omega))
  · exact .inr ⟨x,off,hA,by omega⟩,hx⟩
theorem qqm(x:qem)(th:Nat)(w:World)(h1:1<=th)(h4:th<=4):Calls prog 13 #[.agg #[.int .i64 x.dn,.int .i64 x.t,.int .i64 x.a,.int .i64 x.b,.slice x.kA x.kn x.kc],.int .i64 (th:Int)] w (qkt (x.dn=4) th w):=by
 obtain⟨dn,t,a,b,kA,kn,kc⟩:=x;obtain⟨q,hq⟩:∃q:Prop,q=(dn=4):=⟨_,rfl⟩;show Calls _ _ _ _ (qkt (dn=4) th w)
 rw[<-hq];have HQ:=hid hq;clear hq;have L1:=hid (λW=>qd6 t th (by omega) (by omega) W);have L2:=hid (λW=>qd6 a 6 (by decide) (by decide) W);obtain⟨tt,e1,b1⟩:=qd5 t th (by omega);obtain⟨aa,e2,b2⟩:=qd5 a 6 (by decide);simp only[e1]at L1;simp only[e2]at L2;clear e1 e2;go_enter func13,ntmps13;go_upto_region 1 with fail;generalize hw1:World.alloc _ _=w1;have hb1:Below w.heap.size w w1:=by rw[<-hw1];exact(Below.refl _ _).alloc (Nat.le_refl _) _
 have R0:w1.heap[w.heap.size]? =some (.cells #[.int .i64 dn,.int .i64 t,.int .i64 a,.int .i64 b,.slice kA kn kc] 36 (0,0)):=by rw[<-hw1];exact qaq _ _
 have HB1:=hid hb1;have hl0:=qa0 R0;have c0:w1.cell? ⟨w.heap.size,0,none⟩=some (.int .i64 dn):=cell_of_row w1 _ 0 _ _ _ R0;have c1:w1.cell? ⟨w.heap.size,1,none⟩=some (.int .i64 t):=cell_of_row w1 _ 1 _ _ _ R0;have c2:w1.cell? ⟨w.heap.size,2,none⟩=some (.int .i64 a):=cell_of_row w1 _ 2 _ _ _ R0;have c3:w1.cell? ⟨w.heap.size,3,none⟩=some (.int .i64 b):=cell_of_row w1 _ 3 _ _ _ R0;have c4:w1.cell? ⟨w.heap.size,4,none⟩=some (.slice kA kn kc):=cell_of_row w1 _ 4 _ _ _ R0;clear hw1 hb1 R0;go_wp2_with fail;refine(L1.out w1).mono ?_;rintro e w2⟨rfl,he⟩;rw[he];clear he L1;by_cases h0:dn=0
 · have d0:(dn==0)=true:=beq_iff_eq.2 h0
   rw[h0]at c0;go_wp2_with fail;refine(qx4 a b w1).mono ?_;rintro e w3⟨cl,G,rfl,hok,hb3⟩;unfold qbz;have HOK:=hid hok;have HB3:=hid hb3;clear hok hb3;go_wp2_with fail;go_ret;have hz:=HB1.out.size;have hz3:=HB3.out.size;have b4:Below w3.heap.size w3 (w3.alloc (.cells (EvC.enc ⟨1,(tt:Int),0,cl,none,0,0⟩).toArray 42)):=(Below.refl _ _).alloc (Nat.le_refl _) _;refine qgu (x:=⟨1,(tt:Int),0,cl,none,0,0⟩) ((HB1.out.trans (HB3.out.mono hz)).trans (b4.mono (by omega))) (qaq _ _) (by omega) ⟨.inl rfl,λ_=>⟨⟨tt,rfl,by omega⟩,G,?_⟩,λh=>(by cases h),λh=>(by cases h)⟩;have q:=HOK.out;exact⟨(q.inn.below b4).more b4.size,q.sm,q.gr,q.g1,q.kd,by
    rcases q.new with h|⟨y,off,hA,hy⟩
    · exact .inl h
    · exact .inr ⟨y,off,hA,by omega⟩⟩
 · have d0:(dn==0)=false:=beq_eq_false_iff_ne.2 h0
   by_cases h1:dn=1
   · have d1:(dn==1)=true:=beq_iff_eq.2 h1
     go_wp2_with fail;go_ret;exact qgu (x:=⟨3,0,0,qig,none,0,0⟩) ((HB1.out).alloc (by have:=HB1.out.size;omega) _) (qaq _ _) (by have:=HB1.out.size;omega) (.plain (.inl rfl))
   · have d1:(dn==1)=false:=beq_eq_false_iff_ne.2 h1
     by_cases h2:dn=2
     · have d2:(dn==2)=true:=beq_iff_eq.2 h2
       go_wp2_with fail;go_loopw [6,7] (λv6 v7 wr=>∃(k:Nat) (A:Option Addr) (c:Nat) (l:List EvC),k<=th/\v6=.slice A l.length c/\v7=.int .i64 k/\l.length=k/\Own EvC.enc 42 9 wr w1.heap.size A c l/\Below w1.heap.size w1 wr/\∀W,∀v∈l,EvOK q W w.heap.size th v) (λ_ v7 _=>th-(intOf v7).toNat)
       case atStart=>exact⟨0,none,0,[],by omega,rfl,rfl,rfl,Own.none_,Below.refl _ _,λ_ _ h=>by cases h⟩
       case round =>
        obtain⟨k,A,c,l,hk,rfl,rfl,hlk,hown,hbr,hok⟩:=hrel;have HOWN:=hid hown;have HBR:=hid hbr;have HOK:=hid hok;clear hown hbr hok;by_cases hlt:k<th
        · have hki:(k:Int)<(th:Int):=by omega
          have hz:=HBR.out.size;go_wp2_with(at_builtin;refine qu0 (l:=l) (m:=[(⟨2,(k:Int),0,qig,none,0,0⟩:EvC)]) (A:=A) (c:=c) (lo:=w1.heap.size) _ rfl (.tmp 37) (.tmp 40) rfl (by first|rfl|simp[Act.eval]) (HOWN.out.alloc _) 1 rfl (qfe (qaq _ _)) (by simp;omega) (by simp;omega) ?_;intro A' c' w' hown hgr hloc;have HB':=hid (qde (HOWN.out.alloc _) hgr (HBR.out.alloc hz _) (by simp;omega));have HO':=hid hown;clear hown hgr hloc);refine⟨⟨k+1,A',c',_,by omega,by rw[List.length_append,hlk];rfl,by go_num,by rw[List.length_append,hlk];rfl,HO'.out,HB'.out,λW v hv=>?_⟩,by show th-((k:Int)+1).toNat<th-(k:Int).toNat;omega⟩;rcases List.mem_append.1 hv with hv|hv
          · exact HOK.out W v hv
          · rw[List.mem_singleton.1 hv];exact .stp hlt
        · have hki:¬(k:Int)<(th:Int):=by omega
          have hz:=HBR.out.size;have hz1:=HB1.out.size;go_wp2_with(at_builtin;refine qu0 (l:=l) (m:=[(⟨3,0,0,qig,none,0,0⟩:EvC)]) (A:=A) (c:=c) (lo:=w1.heap.size) _ rfl (.tmp 42) (.tmp 44) rfl (by first|rfl|simp[Act.eval]) (HOWN.out.alloc _) 1 rfl (qfe (qaq _ _)) (by simp;omega) (by simp;omega) ?_;intro A' c' w' hown hgr hloc;have HB':=hid (qde (HOWN.out.alloc _) hgr (HBR.out.alloc hz _) (by simp;omega));have HO':=hid hown;clear hown hgr hloc);go_ret;have hg:=qp6 (q:=q) (th:=th) (w:=w) HO'.out hz1 (HB1.out.trans (HB'.out.mono hz1)) (by rw[List.length_append,hlk];show k+1<=7;omega) (λv hv=>by
           rcases List.mem_append.1 hv with hv|hv
           · exact HOK.out _ v hv
           · rw[List.mem_singleton.1 hv];exact .plain (.inl rfl))
          rw[List.length_append,hlk]at hg;exact hg
     · have d2:(dn==2)=false:=beq_eq_false_iff_ne.2 h2
       by_cases h3:dn=3
       · have d3:(dn==3)=true:=beq_iff_eq.2 h3
         go_wp2_with fail;go_ret;exact qgu (x:=⟨4,0,a,qig,none,0,0⟩) ((HB1.out).alloc (by have:=HB1.out.size;omega) _) (qaq _ _) (by have:=HB1.out.size;omega) (.plain (.inr (.inl rfl)))
       · have d3:(dn==3)=false:=beq_eq_false_iff_ne.2 h3
         by_cases h4:dn=4
         · have d4:(dn==4)=true:=beq_iff_eq.2 h4
           go_wp2_with fail;go_ret;exact qgu (x:=⟨5,0,0,qig,kA,kn,kc⟩) ((HB1.out).alloc (by have:=HB1.out.size;omega) _) (qaq _ _) (by have:=HB1.out.size;omega) (.plain (.inr (.inr ⟨rfl,by rw[HQ.out];exact h4⟩)))
         · have d4:(dn==4)=false:=beq_eq_false_iff_ne.2 h4
           go_wp2_with fail;go_loopw [8,9] (λv8 v9 wr=>∃(k:Nat) (A:Option Addr) (c:Nat) (l:List EvC),k<=6/\v8=.slice A l.length c/\v9=.int .i64 k/\l.length=k/\Own EvC.enc 42 9 wr w1.heap.size A c l/\Below w1.heap.size w1 wr/\∀W,∀v∈l,EvOK q W w.heap.size th v) (λ_ v9 _=>7-(intOf v9).toNat)
           case atStart=>exact⟨0,none,0,[],by omega,rfl,rfl,rfl,Own.none_,Below.refl _ _,λ_ _ h=>by cases h⟩
           case round =>
            obtain⟨k,A,c,l,hk,rfl,rfl,hlk,hown,hbr,hok⟩:=hrel;subst hlk;have c2':wr.cell? ⟨w.heap.size,2,none⟩=some (.int .i64 a):=(hbr.cell (p:=⟨w.heap.size,2,none⟩) hl0).trans c2;have hl0':w.heap.size<wr.heap.size:=by have:=hbr.size;omega
            have HOWN:=hid hown;have HBR:=hid hbr;have HOK:=hid hok;clear hown hbr hok;by_cases hlt:l.length<=aa
            · have hki:(l.length:Int)<=(aa:Int):=by omega
              have hz:=HBR.out.size;go_wp2_with fail;refine(L2.out wr).mono ?_;rintro e w2⟨rfl,he⟩;rw[he];clear he;go_wp2_with(at_builtin;refine qu0 (l:=l) (m:=[(⟨2,(tt:Int),0,qig,none,0,0⟩:EvC)]) (A:=A) (c:=c) (lo:=w1.heap.size) _ rfl (.tmp 65) (.tmp 68) rfl (by first|rfl|simp[Act.eval]) (HOWN.out.alloc _) 1 rfl (qfe (qaq _ _)) (by simp;omega) (by simp;omega) ?_;intro A' c' w' hown hgr hloc;have HB':=hid (qde (HOWN.out.alloc _) hgr (HBR.out.alloc hz _) (by simp;omega));have HO':=hid hown;clear hown hgr hloc);refine⟨⟨l.length+1,A',c',_,by omega,by rw[List.length_append];rfl,by go_num,by rw[List.length_append];rfl,HO'.out,HB'.out,λW v hv=>?_⟩,by show 7-((l.length:Int)+1).toNat<7-(l.length:Int).toNat;omega⟩;rcases List.mem_append.1 hv with hv|hv
              · exact HOK.out W v hv
              · rw[List.mem_singleton.1 hv];exact .stp (by omega)
            · have hki:¬(l.length:Int)<=(aa:Int):=by omega
              have hz1:=HB1.out.size;go_wp2_with fail;refine(L2.out wr).mono ?_;rintro e w2⟨rfl,he⟩;rw[he];clear he;go_wp2_with fail;go_ret;exact qp6 HOWN.out hz1 (HB1.out.trans (HBR.out.mono hz1)) (by omega) (λv hv=>HOK.out _ v hv)
end
end Go.Proofs.YtecikkjbnkhhkaaGreat
