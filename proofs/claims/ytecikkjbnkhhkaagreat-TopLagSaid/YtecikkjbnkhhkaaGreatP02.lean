/- A part of the walk. -/
import Derived.Test.YtecikkjbnkhhkaaGreatP01
import Derived.Deep.DeepCutAuto
import Derived.Deep.RegionHeld3
import Derived.Deep.OwnRows
namespace Go.Proofs.YtecikkjbnkhhkaaGreat
open _root_.Go.Proofs.Tryz
set_option maxHeartbeats 4000000
set_option maxRecDepth 100000
section
open Go.RowKit
def crc1(c:Nat):Nat:=if c%2=0 then c/2 else c/2 ^^^ 3988292384
def crcK:Nat->Nat->Nat
 |0,c=>c
 |k+1,c=>crc1 (crcK k c)
def crcB(c x:Nat):Nat:=crcK 8 (c ^^^ x)
theorem qgd{a b:Nat}(ha:a<4294967296)(hb:b<4294967296):a ^^^ b<4294967296:=Nat.xor_lt_two_pow (n:=32) ha hb
theorem qzi{c:Nat}(h:c<4294967296):crc1 c<4294967296:=by
 unfold crc1;split
 · omega
 · exact qgd (by omega) (by omega)
theorem qnw{c:Nat}(h:c<4294967296):∀k,crcK k c<4294967296
 |0=>h
 |k+1=>qzi (qnw h k)
theorem qzh{c x:Nat}(h:c<4294967296)(hx:x<256):crcB c x<4294967296:=qnw (qgd h (by omega)) 8
theorem qmn(a:Nat)(h:a<4294967296):bits .xor .u32 ((a:Int)/2) 3988292384=((a/2 ^^^ 3988292384:Nat):Int):=by
 have h1:((a:Int)/2)=((a/2:Nat):Int):=by omega
 rw[h1];exact u32_xor_nat (a/2) 3988292384 (by omega) (by omega)
theorem qoj(c x:Nat)(hc:c<4294967296)(hx:x<256)(w:World):Calls prog 287 #[.int .u32 (c:Int),.int .u8 (x:Int)] w λe w'=>e=.returned (.int .u32 (crcB c x:Nat))/\w'=w:=by
 have h0:bits .xor .u32 (c:Int) (x:Int)=((c ^^^ x:Nat):Int):=u32_xor_nat c x hc (by omega);have hl:=qgd hc (show x<4294967296 by omega);have HL:=hid hl;have i0:IntKind.u32.wrap (x:Int)=(x:Int):=by rw[IntKind.wrap_u32'];omega
 clear hl;go_enter func287,ntmps287;go_wp2_with fail;go_wp2_with fail;go_step3;go_wp2_with fail;go_step3;go_wp2_with fail;clear h0 i0;go_loopw [0,5] (λv0 v5 wr=>∃(k:Nat),k<=8/\v0=.int .u32 (crcK k (c ^^^ x):Nat)/\v5=.int .i64 k/\wr=w) (λ_ v5 _=>8-(intOf v5).toNat)
 case atStart=>exact⟨0,by omega,rfl,rfl,rfl⟩
 case round =>
  obtain⟨k,hk,rfl,rfl,rfl⟩:=hrel;by_cases hlt:k<8
  · have hlti:(k:Int)<8:=by omega
    have hm:=qnw HL.out k;have HC:=hid (show crcK (k+1) (c ^^^ x)=crc1 (crcK k (c ^^^ x))from rfl);generalize crcK k (c ^^^ x)=m at *;by_cases h2:m%2=0
    · have h3:((m:Int).tmod 2==0)=true:=by rw[beq_iff_eq,Int.tmod_eq_emod_of_nonneg (by omega)];omega
      go_wp2_with fail;exact⟨⟨k+1,by omega,by rw[HC.out,crc1,if_pos h2];exact congrArg (Value.int .u32) (by omega),by go_num,trivial⟩,by simp[intOf];omega⟩
    · have h3:((m:Int).tmod 2==0)=false:=by rw[beq_eq_false_iff_ne,Int.tmod_eq_emod_of_nonneg (by omega)];omega
      have h4:=qmn m hm;go_wp2_with fail;exact⟨⟨k+1,by omega,by rw[HC.out,crc1,if_neg h2],by go_num,trivial⟩,by simp[intOf];omega⟩
  · obtain rfl:k=8:=by omega
    go_wp2_with fail;rw[Exit.noGoto_ret];go_ret;exact⟨rfl,rfl⟩
def crcL(c:Nat)(l:List UInt8):Nat:=l.foldl (λc x=>crcB c x.toNat) c
theorem qg8{c:Nat}(h:c<4294967296)(l:List UInt8):crcL c l<4294967296:=by
 unfold crcL;induction l generalizing c with
 |nil=>exact h
 |cons a l ih=>exact ih (qzh h a.toNat_lt)
theorem qm2{c:Nat}{l:List UInt8}{k:Nat}(hk:k<l.length):crcL c (l.take (k+1))=crcB (crcL c (l.take k)) l[k].toNat:=by
 unfold crcL;rw[List.take_succ_eq_append_getElem hk,List.foldl_append];rfl
def sumT(s:ByteArray):Nat:=crcL 4294967295 s.data.toList ^^^ 4294967295
theorem qjq(s:ByteArray)(w:World)(hs:s.size<=1000000):Calls prog 299 #[.string s] w λe w'=>e=.returned (.int .u32 (sumT s:Nat))/\w'=w:=by
 go_enter func299,ntmps299;go_wp2_with fail;go_loopw [3,4,7] (λv3 _ v7 wr=>∃(k:Nat),k<=s.size/\v3=.int .u32 (crcL 4294967295 (s.data.toList.take k):Nat)/\v7=.int .i64 k/\wr=w) (λ_ _ v7 _=>s.size-(intOf v7).toNat)
 case atStart=>exact⟨0,by omega,rfl,rfl,rfl⟩
 case round =>
  obtain⟨k,hk,rfl,rfl,rfl⟩:=hrel;by_cases hlt:k<s.size
  · have hlti:(k:Int)<(s.size:Int):=by omega
    go_wp2_with fail;refine(qoj _ _ (qg8 (by omega) _) s[k].toNat_lt _).mono ?_;rintro e w2⟨rfl,rfl⟩;go_wp2_with fail;exact⟨⟨k+1,by omega,congrArg (λn:Nat=>Value.int .u32 (n:Int)) (qm2 (l:=s.data.toList) (by simpa using hlt)).symm,by go_num,trivial⟩,by simp[intOf];omega⟩
  · obtain rfl:k=s.size:=by omega
    have hx:bits .xor .u32 ((crcL 4294967295 (s.data.toList.take s.size):Nat):Int) 4294967295=(sumT s:Nat):=by
     rw[List.take_of_length_le (by simp)];exact u32_xor_nat _ 4294967295 (qg8 (by omega) _) (by omega)
    go_wp2_with fail;go_ret;exact⟨rfl,rfl⟩
def byE(x:UInt8):List Value:=[.int .u8 (x.toNat:Int)]
theorem qbn(x:UInt8):(byE x).length=1:=rfl
theorem qzk(x:UInt8):∀u∈byE x,u.oneCell'=true:=by intro u hu;simp[byE]at hu;subst hu;rfl
theorem Arr.byte1{w:World}{B:Nat}{A:Option Addr}{l:List UInt8}(h:Arr byE 1 w B A l){i:Nat}(hi:i<l.length):∃b off,A=some ⟨b,off,none⟩/\b<B/\w.cell? ⟨b,off+i,none⟩=some (.int .u8 (l[i].toNat:Int)):=by
 rcases h with rfl|⟨b,off,rfl,hB,hc⟩
 · simp at hi
 · exact⟨b,off,rfl,hB,by simpa using hc i hi 0 _ rfl⟩
def sumL(c:Nat)(l:List UInt8):Nat:=crcL (c ^^^ 4294967295) l ^^^ 4294967295
theorem qmv{c:Nat}(h:c<4294967296)(l:List UInt8):sumL c l<4294967296:=qgd (qg8 (qgd h (by omega)) l) (by omega)
theorem qu3(c:Nat)(l:List UInt8)(A:Option Addr)(n:Nat)(w:World)(hc:c<4294967296)(h:Arr byE 1 w w.heap.size A l)(hn:l.length<=n)(hm:n<=9223372036854775807):Calls prog 229 #[.int .u32 (c:Int),.slice A l.length n] w λe w'=>e=.returned (.int .u32 (sumL c l:Nat))/\Below w.heap.size w w':=by
 have h0:bits .xor .u32 (c:Int) 4294967295=((c ^^^ 4294967295:Nat):Int):=u32_xor_nat c 4294967295 hc (by omega);have HA:=hid h;clear h;go_enter func229,ntmps229;go_wp2_with fail;clear h0;go_loopw [0,6,11] (λv0 _ v11 wr=>∃(k:Nat),k<=l.length/\v0=.int .u32 (crcL (c ^^^ 4294967295) (l.take k):Nat)/\v11=.int .i64 k/\Below w.heap.size w wr) (λ_ _ v11 _=>l.length-(intOf v11).toNat)
 case atStart=>exact⟨0,by omega,rfl,rfl,Below.refl _ _⟩
 case round =>
  obtain⟨k,hk,rfl,rfl,hb⟩:=hrel;by_cases hlt:k<l.length
  · have hlti:(k:Int)<(l.length:Int):=by omega
    obtain⟨b,off,rfl,hB,c0⟩:=(HA.out.below hb).byte1 hlt;go_wp2_with fail;refine(qoj _ _ (qg8 (qgd hc (by omega)) _) l[k].toNat_lt _).mono ?_;rintro e w2⟨rfl,rfl⟩;go_wp2_with fail;exact⟨⟨k+1,by omega,congrArg (λn:Nat=>Value.int .u32 (n:Int)) (qm2 (l:=l) hlt).symm,by go_num,hb⟩,by simp[intOf];omega⟩
  · obtain rfl:k=l.length:=by omega
    have hx:bits .xor .u32 ((crcL (c ^^^ 4294967295) l:Nat):Int) 4294967295=(sumL c l:Nat):=by
     exact u32_xor_nat _ 4294967295 (qg8 (qgd hc (by omega)) _) (by omega)
    go_wp2_with fail;go_ret;exact⟨rfl,hb⟩
theorem qrr(l:List UInt8)(A:Option Addr)(n:Nat)(w:World)(h:Arr byE 1 w w.heap.size A l)(hn:l.length<=n)(hm:n<=9223372036854775807):Calls prog 211 #[.slice A l.length n] w λe w'=>e=.returned (.int .u32 (sumL 0 l:Nat))/\Below w.heap.size w w':=by
 go_enter func211,ntmps211;go_wp2_with fail;refine(qu3 0 l A n w (by omega) h hn hm).mono ?_;rintro e w2⟨rfl,hb⟩;go_wp2_with fail;go_ret;exact⟨rfl,hb⟩
def bucket(s:ByteArray):Nat:=sumT s%8
theorem qmu(s:ByteArray):sumT s<4294967296:=qgd (qg8 (by omega) _) (by omega)
theorem qg9(s:ByteArray)(w:World)(hs:s.size<=1000000):Calls prog 240 #[.string s] w λe w'=>e=.returned (.int .i64 (bucket s:Nat))/\w'=w:=by
 have hlt:=qmu s;go_enter func240,ntmps240;go_wp2_with fail;refine(qjq s w hs).mono ?_;rintro e w2⟨rfl,rfl⟩;have h1:(sumT s:Int).tmod 8=((bucket s:Nat):Int):=by rw[Int.tmod_eq_emod_of_nonneg (by omega),bucket];omega
 have hb:bucket s<8:=by unfold bucket;omega
 have h2:IntKind.i64.wrap ((bucket s:Nat):Int)=((bucket s:Nat):Int):=Go.IntWalk.i64_in _ (by omega);go_wp2_with fail;go_ret;exact⟨rfl,rfl⟩
end
section
open Go.RowKit
theorem qcu:(prog.info? 5).map (λi=>(i.zero,i.size,i.bytes))=some (some (.int .u8 0),1,1):=by kernel_rfl
theorem qdw{ops:Array Oper}{rest:List Oper}{o:Oper}{a:Act}{Q:Exit->Act->World->Prop}(w:World)(hgd:o.guard=none)(s x:Operand)
 (ho:o.op=.call {callee:=.builtin .append,args:=#[s,x],argTypes:=#[86,86]}) {lo:Nat} {A:Option Addr} {c:Nat} {l:List UInt8} (hs:a.eval s=.slice A l.length c) (own:Own byE 5 1 w lo A c l)
 {B:Nat} {A2:Option Addr} {m:List UInt8} (c2:Nat) (hx:a.eval x=.slice A2 m.length c2) (arr:Arr byE 1 w B A2 m) (hb:l.length+m.length<=1000000) (hlo:lo<=w.heap.size)
 (h:∀A' c' w',Own byE 5 1 w' lo A' c' (l++m)->w.grownBy w' (qa8 A c)->(A'=A/\c'=c\/∃g,A'=some ⟨g,0,none⟩/\w.heap.size<=g)->wpList prog ops Q rest (a.put o.dst (.slice A' (l.length+m.length) c')) w'):
 wpList prog ops Q (o::rest) a w:=by
 obtain⟨i0,hi,hz0,hz1,hz2⟩:=info_parts qcu;exact qar w hgd s x 86 ho i0 _ 1 underlying86 hi hz0 hz1 hz2 rfl (by decide) qbn qzk hs own c2 hx arr (by unfold maxLen;omega) (by omega) hlo h
def qpi(l:List UInt8)(w:World)(e:Ending)(w':World):Prop:=∃A' c',e=.returned (.slice A' l.length c')/\Own byE 5 1 w' w.heap.size A' c' l/\Below w.heap.size w w'
theorem qhy(l:List UInt8)(A:Option Addr)(c:Nat)(w:World)(hA:Arr byE 1 w w.heap.size A l)(hb:l.length<=1000000):
 Calls prog 119 #[.slice A l.length c] w (qpi l w):=by
 have HB:=hid hb;clear hb;have hnil:=λW:World=>Lib.run_eql_slice_nil (P:=prog) W 86 5 A l.length c 0 0 underlying86
 cases A with
 |none =>
  go_enter func119,ntmps119;go_wp2;go_ret;have hl:l=[]:=by
   rcases hA with h|⟨b,off,h,_⟩
   · exact h
   · cases h
  subst hl;exact⟨none,0,rfl,Own.none_,Below.refl _ _⟩
 |some a =>
  go_enter func119,ntmps119;go_wp2_with(at_builtin;refine qdw (l:=[]) (m:=l) _ rfl (.tmp 5) (.tmp 6) rfl rfl (Own.zero (lo:=w.heap.size)) c rfl (hA.below ((Below.refl _ w).alloc (Nat.le_refl _) _)) (by simpa using HB.out) (by simp) ?_;intro A' c' w' hown hgr hloc);go_ret;refine⟨A',c',by simp,by simpa using hown,((Below.refl _ w).alloc (Nat.le_refl _) _).grown hgr (by simp) (λk hk=>?_)⟩;simp[qa8]at hk
theorem qm6(A:Option Addr)(m c:Nat)(at' n:Nat)(w:World)(h1:1<=n)(h2:n<=8)(h3:at'+n<=m)(h4:m<=1000000):Calls prog 153 #[.slice A m c,.int .i64 at',.int .i64 n] w λe w'=>e=.returned (.int .i64 0)/\w'=w:=by
 have g1:¬(n:Int)<1:=by omega
 have g2:¬(8:Int)<(n:Int):=by omega
 have g3:¬(at':Int)<0:=by omega
 have g5:IntKind.i64.wrap ((m:Int)-(n:Int))=(m:Int)-(n:Int):=Go.IntWalk.i64_in _ (by omega);have g4:¬(m:Int)-(n:Int)<(at':Int):=by omega
 go_enter func153,ntmps153;go_wp2_with fail;go_ret;exact⟨rfl,rfl⟩
def qts(v k:Nat):UInt8:=UInt8.ofNat (v/256^k%256)
def putL(l:List UInt8)(at' v:Nat):Nat->List UInt8
 |0=>l
 |k+1=>(putL l at' v k).set (at'+k) (qts v k)
theorem qb7(l:List UInt8)(at' v:Nat):∀k,(putL l at' v k).length=l.length
 |0=>rfl
 |k+1=>by rw[putL,List.length_set,qb7 l at' v k]
theorem Own.setByte{w:World}{lo:Nat}{b off c:Nat}{l:List UInt8}(h:Own byE 5 1 w lo (some ⟨b,off,none⟩) c l){i:Nat}(hi:i<l.length)(x:UInt8):
 Own byE 5 1 (w.setCell ⟨b,off+i,none⟩ (.int .u8 (x.toNat:Int))) lo (some ⟨b,off,none⟩) c (l.set i x):=by
 obtain⟨h1,h2,h3⟩:=h;rcases h3 with h3|⟨b',off',cur,hA,hlo,hh,hs,hc⟩
 · omega
 cases hA
 have fm:∀l:List UInt8,l.flatMap byE=l.map λx=>Value.int .u8 (x.toNat:Int):=λl=>by
  induction l with
  |nil=>rfl
  |cons a l ih=>rw[List.flatMap_cons,ih];rfl
 refine⟨by rw[List.length_set];exact h1,h2,.inr ⟨b,off,cur.setIfInBounds (off+i) (.int .u8 (x.toNat:Int)),rfl,hlo,heap_setCell_same w b (off+i) cur _ _ hh,by simpa using hs,?_⟩⟩;intro j u hu;rw[fm,List.getElem?_map,List.getElem?_set]at hu;rw[Array.getElem?_setIfInBounds];by_cases hj:i=j
 · subst hj
   rw[if_pos rfl,if_pos hi]at hu;rw[if_pos rfl,if_pos (by omega)];simpa using hu
 · rw[if_neg hj]at hu
   rw[if_neg (by omega)];refine hc j u ?_;rw[fm,List.getElem?_map];exact hu
def qyf(l:List UInt8)(w:World)(e:Ending)(w':World):Prop:=∃A' c',e=.returned (.tuple #[.slice A' l.length c',.int .i64 0])/\Own byE 5 1 w' w.heap.size A' c' l/\Below w.heap.size w w'
theorem qlc(k:Nat):256^k=2^(8*k):=by rw[Nat.pow_mul]
theorem qo2(v k:Nat):(qts v k).toNat=v/256^k%256:=by
 unfold qts;rw[UInt8.toNat_ofNat'];omega
theorem qqz(v k:Nat):IntKind.u8.wrap ((v:Int)/2^(8*k))=((qts v k).toNat:Int):=by
 rw[IntKind.wrap_u8',qo2,qlc,Int.natCast_emod,Int.natCast_ediv,Int.natCast_pow];rfl
theorem qvj{v n:Nat}(h:v<256^n):((v:Int)/2^(8*n) != 0)=false:=by
 rw[qlc]at h;have h1:(v:Int)/2^(8*n)=((v/2^(8*n):Nat):Int):=by rw[Int.natCast_ediv,Int.natCast_pow];rfl
 rw[h1,Nat.div_eq_of_lt h];rfl
theorem qgp(l:List UInt8)(A:Option Addr)(c at' n v:Nat)(w:World)(hA:Arr byE 1 w w.heap.size A l)(h1:1<=n)(h2:n<=8)(h3:at'+n<=l.length)(h4:l.length<=1000000)(hv:v<256^n)(_hv8:v<18446744073709551616):
 Calls prog 154 #[.slice A l.length c,.int .i64 at',.int .i64 n,.int .u64 v] w (qyf (putL l at' v n) w):=by
 have hsh:=qvj hv;go_enter func154,ntmps154;go_wp2_with fail;refine(qm6 A l.length c at' n w h1 h2 h3 h4).mono ?_;rintro e w1⟨rfl,rfl⟩;rcases Nat.lt_or_ge n 8 with hn|hn
 all_goals
  first|(have hni:(n:Int)<8:=by omega)|(have hni:¬(n:Int)<8:=by omega)
  go_wp2_with fail;refine(qhy l A c w1 hA h4).mono ?_;rintro e w2⟨A2,c2,rfl,hown,hb⟩;have HO:=hid hown;have hlen:=hown.len;have hmax:=hown.max;clear hsh hA hown;obtain⟨wo,hwo⟩:∃x,x=w2:=⟨_,rfl⟩;subst hwo;go_wp2_with fail;go_loopw [12,32] (λ_ v32 wr=>∃k:Nat,k<=n/\v32=.int .i64 k/\Own byE 5 1 wr w1.heap.size A2 c2 (putL l at' v k)/\Below w1.heap.size w1 wr) (λ_ v32 _=>n-(intOf v32).toNat)
  case atStart=>exact⟨0,by omega,rfl,HO.out,hb⟩
  case round =>
   obtain⟨k,hk,rfl,hown,hbr⟩:=hrel;have HOR:=hid hown;by_cases hlt:k<n
   · have hlti:(k:Int)<(n:Int):=by omega
     have hpl:=qb7 l at' v k;rcases hown.2.2 with h0|⟨nb,no,cur,rfl,hnb,hnh,hns,hnc⟩
     · omega
     have hkl:at'+k<(putL l at' v k).length:=by omega
     obtain⟨nb',no',hA',hB',n0⟩:=(HOR.out.arr qbn).byte1 hkl;cases hA'
     have nf:=frozen_of_row wr nb (no+(at'+k)) _ _ hnh;have hi:(at':Int)+(k:Int)<(l.length:Int):=by omega
     have hi0:¬(at':Int)+(k:Int)<0:=by omega
     have iw:IntKind.i64.wrap ((at':Int)+(k:Int))=(at':Int)+(k:Int):=Go.IntWalk.i64_in _ (by omega);have iw2:IntKind.i64.wrap (8*(k:Int))=8*(k:Int):=Go.IntWalk.i64_in _ (by omega);have hbw:=qqz v k;clear hown hnh hns hnc;go_wp2_with fail;exact⟨⟨k+1,by omega,by go_num,HOR.out.setByte hkl (qts v k),hbr.setCell hnb _⟩,by simp[intOf];omega⟩
   · obtain rfl:k=n:=by omega
     go_wp2_with fail;go_ret2;exact⟨A2,c2,by rw[qb7];rfl,HOR.out,hbr⟩
def getL(l:List UInt8)(at':Nat):Nat->Nat
 |0=>0
 |k+1=>getL l at' k+(l.getD (at'+k) 0).toNat*256^k
theorem qnp(l:List UInt8)(at':Nat):∀k,getL l at' k<256^k
 |0=>by simp[getL]
 |k+1=>by
  have h1:=qnp l at' k
  have h2:=(l.getD (at'+k) 0).toNat_lt
  have h3:(l.getD (at'+k) 0).toNat*256^k<=255*256^k:=Nat.mul_le_mul_right _ (by omega)
  rw[getL,Nat.pow_succ]
  omega
theorem qyu{a k x:Nat}(ha:a<256^k)(_hk:k<8)(_hx:x<256):a ||| x*256^k=a+x*256^k:=by
 rw[Nat.or_comm,nat_join (8*k) (x*256^k) a (by rw[qlc];exact Nat.mul_mod_left _ _) (by rw[<-qlc];exact ha),Nat.add_comm]
theorem qyt{g k x:Nat}(hg:g<256^k)(hk:k<8)(hx:x<256):bits .or .u64 (g:Int) (IntKind.u64.wrap ((x:Int)*2^(8*k)))=((g+x*256^k:Nat):Int):=by
 have h1:(x:Int)*2^(8*k)=((x*256^k:Nat):Int):=by rw[qlc,Int.natCast_mul,Int.natCast_pow];rfl
 have h3:256^k<=256^7:=Nat.pow_le_pow_right (by omega) (by omega);have h4:x*256^k<=255*256^7:=Nat.mul_le_mul (by omega) h3;have h5:(255:Nat)*256^7=18374686479671623680:=by decide
 have h6:(256:Nat)^7=72057594037927936:=by decide
 have h2:IntKind.u64.wrap ((x*256^k:Nat):Int)=((x*256^k:Nat):Int):=by
  rw[IntKind.wrap_u64];omega
 rw[h1,h2,u64_or_nat g (x*256^k) (by omega) (by omega),qyu hg hk hx]
theorem qwk(l:List UInt8)(A:Option Addr)(c at' n:Nat)(w:World)(hA:Arr byE 1 w w.heap.size A l)(h1:1<=n)(h2:n<=8)(h3:at'+n<=l.length)(h4:l.length<=1000000)(hc:l.length<=c)(hm:c<=9223372036854775807):
 Calls prog 121 #[.slice A l.length c,.int .i64 at',.int .i64 n] w λe w'=>e=.returned (.tuple #[.int .u64 (getL l at' n:Nat),.int .i64 0])/\w'=w:=by
 have HA:=hid hA;clear hA;go_enter func121,ntmps121;go_wp2_with fail;refine(qm6 A l.length c at' n w h1 h2 h3 h4).mono ?_;rintro e w1⟨rfl,rfl⟩;go_wp2_with fail;go_loopw [9,10,19] (λv9 _ v19 wr=>∃k:Nat,k<=n/\v9=.int .u64 (getL l at' k:Nat)/\v19=.int .i64 k/\wr=w1) (λ_ _ v19 _=>n-(intOf v19).toNat)
 case atStart=>exact⟨0,by omega,rfl,rfl,rfl⟩
 case round =>
  obtain⟨k,hk,rfl,rfl,rfl⟩:=hrel;by_cases hlt:k<n
  · have hlti:(k:Int)<(n:Int):=by omega
    have hkl:at'+k<l.length:=by omega
    obtain⟨nb,no,rfl,hB,n0⟩:=HA.out.byte1 hkl;have hi:(at':Int)+(k:Int)<(l.length:Int):=by omega
    have hi0:¬(at':Int)+(k:Int)<0:=by omega
    have iw:IntKind.i64.wrap ((at':Int)+(k:Int))=(at':Int)+(k:Int):=Go.IntWalk.i64_in _ (by omega);have iw2:IntKind.i64.wrap (8*(k:Int))=8*(k:Int):=Go.IntWalk.i64_in _ (by omega);have hx:=l[at'+k].toNat_lt;have HG:=hid (qnp l at' k);have HN:=hid (show getL l at' (k+1)=getL l at' k+l[at'+k].toNat*256^k by rw[getL,List.getD_eq_getElem?_getD,List.getElem?_eq_getElem hkl,Option.getD_some]);generalize l[at'+k].toNat=x at *;generalize getL l at' k=g at *;go_wp2_with fail;exact⟨⟨k+1,by omega,by rw[qyt HG.out (by omega) hx,HN.out],by go_num,trivial⟩,by simp[intOf];omega⟩
  · obtain rfl:k=n:=by omega
    go_wp2_with fail;go_ret2;exact⟨rfl,rfl⟩
end
section
open Go.RowKit
theorem qij{P:Program}(w:World){o:Oper}{a:Act}{K:Act->World->Prop}{Q:Exit->Act->World->Prop}(d s:Operand)(t t':TypeId)
 (ho:o.op=.call {callee:=.builtin .copy,args:=#[d,s],argTypes:=#[t,t']}) (v u:Value) (hd:a.eval d=v) (hs:a.eval s=u) {v':Value} {w':World}
 (hr:(Builtin.copy_ #[t,t'] o.type #[v,u]).run P w=.ok v' w') (h:K (a.put o.dst v') w'):o.wp P a w K Q:=by
 unfold Oper.wp execOp;simp only[ho,resolve,invoke,builtin,Sem.run_bind,Sem.run_pure,Result.andThen_ok,List.map_toArray,List.map_cons,List.map_nil,hd,hs,hr];exact h
theorem qbp{P:Program}(w:World){ops:Array Oper}{rest:List Oper}{o:Oper}{a:Act}{Q:Exit->Act->World->Prop}(hgd:o.guard=none)(d s:Operand)(t t':TypeId)
 (ho:o.op=.call {callee:=.builtin .copy,args:=#[d,s],argTypes:=#[t,t']}) (v u:Value) (hd:a.eval d=v) (hs:a.eval s=u) {v':Value} {w':World}
 (hr:(Builtin.copy_ #[t,t'] o.type #[v,u]).run P w=.ok v' w') (h:wpList P ops Q rest (a.put o.dst v') w'):wpList P ops Q (o::rest) a w:=
 wpList_plain hgd λ_ hK=>qij w d s t t' ho v u hd hs hr (hK _ _ h)
theorem qge{P:Program}{ops:Array Oper}{o:Oper}{a:Act}{w:World}{K:Act->World->Prop}{Q:Exit->Act->World->Prop}{E:Prop}
 (hg:o.guard=none) (d x:Operand) (dT sT:TypeId) (hop:o.op=Op.call {callee:=Callee.builtin Builtin.copy,args:=#[d,x],argTypes:=#[dT,sT]})
 (v u:Value) (hd:a.eval d=v) (hx:a.eval x=u) {v':Value} {w':World} (hr:(Builtin.copy_ #[dT,sT] o.type #[v,u]).run P w=.ok v' w') (hK:K (a.put o.dst v') w'):
 if Region.wanted o (yielded ops a.tmps)=true then Oper.wp P o a w K Q else E:=by
 have hw:Region.wanted o (yielded ops a.tmps)=true:=by simp[Region.wanted,hg]
 rw[if_pos hw];exact qij w d x dT sT hop v u hd hx hr hK
theorem qa2(w:World)(o:Obj)(k:Nat):(w.alloc o).heap[k]? =if k=w.heap.size then some o else w.heap[k]? :=by
 show(w.heap.push o)[k]? =_
 rw[Array.getElem?_push]
theorem qa0{w:World}{b:Nat}{o:Obj}(h:w.heap[b]? =some o):b<w.heap.size:=(Array.getElem?_eq_some_iff.1 h).1
def byC(l:List UInt8):List Value:=l.map λx=>.int .u8 (x.toNat:Int)
theorem qzd(l:List UInt8):l.flatMap byE=byC l:=by
 induction l with
 |nil=>rfl
 |cons a l ih=>rw[List.flatMap_cons,ih];rfl
theorem qad(l:List UInt8):(byC l).length=l.length:=List.length_map _
theorem qcw{l:List UInt8}:∀v∈byC l,v.oneCell'=true:=by
 intro v hv;obtain⟨x, -,rfl⟩:=List.mem_map.1 hv;rfl
def RowB(w:World)(b:Nat)(t:TypeId)(l:List UInt8):Prop:=w.heap[b]? =some (.cells (byC l).toArray t (0,0))
theorem RowB.cell{w:World}{b:Nat}{t:TypeId}{l:List UInt8}(h:RowB w b t l){i:Nat}(hi:i<l.length):w.cell? ⟨b,i,none⟩=some (.int .u8 (l[i].toNat:Int)):=by
 rw[cell_of_row w b i _ _ _ h,List.getElem?_toArray,byC,List.getElem?_map,List.getElem?_eq_getElem hi];rfl
theorem RowB.arr{w:World}{b:Nat}{t:TypeId}{l:List UInt8}(h:RowB w b t l)(o:Nat):Arr byE 1 w w.heap.size (some ⟨b,o,none⟩) (l.drop o):=by
 refine .inr ⟨b,o,rfl,qa0 h,λi hi j u hu=>?_⟩;have hj:j=0:=by
  have:=(List.getElem?_eq_some_iff.1 hu).1;rw[qbn]at this;omega
 subst hj;rw[List.length_drop]at hi;rw[Nat.mul_one,Nat.add_zero,h.cell (by omega)];simpa[byE]using hu
theorem RowB.arr0{w:World}{b:Nat}{t:TypeId}{l:List UInt8}(h:RowB w b t l):Arr byE 1 w w.heap.size (some ⟨b,0,none⟩) l:=h.arr 0
theorem RowB.below{w w':World}{B b:Nat}{t:TypeId}{l:List UInt8}(h:RowB w b t l)(hb:Below B w w')(hB:b<B):RowB w' b t l:=(hb.block b hB).trans h
theorem RowB.range{w:World}{b:Nat}{t:TypeId}{l:List UInt8}(h:RowB w b t l):w.rangeAt b 0 (byC l):=λj v hv=>by
 rw[Nat.zero_add,cell_of_row w b j _ _ _ h,List.getElem?_toArray]
 exact hv
theorem RowB.of_own{w:World}{lo b c:Nat}{t:TypeId}{l:List UInt8}(h:RowB w b t l)(hlo:lo<=b)(hc:c=l.length)(hm:l.length<=1000000):Own byE t 1 w lo (some ⟨b,0,none⟩) c l:=by
 refine⟨by omega,by unfold maxLen;omega,.inr ⟨b,0,_,rfl,hlo,h,by simp[qad];omega,λj u hu=>?_⟩⟩;rw[qzd]at hu;rw[Nat.zero_add,List.getElem?_toArray];exact hu
def qbj(l:List UInt8)(o:Nat)(m:List UInt8):List UInt8:=l.take o++m++l.drop (o+m.length)
theorem qc1{l m:List UInt8}{o:Nat}(h:o+m.length<=l.length):(qbj l o m).length=l.length:=by
 simp[qbj];omega
theorem qbd{ops:Array Oper}{rest:List Oper}{o:Oper}{a:Act}{Q:Exit->Act->World->Prop}(w:World)(hgd:o.guard=none)(d s:Operand)
 (ho:o.op=.call {callee:=.builtin .copy,args:=#[d,s],argTypes:=#[86,86]}) {b off dLen dCap:Nat} (hd:a.eval d=.slice (some ⟨b,off,none⟩) dLen dCap) {A:Option Addr} {sCap:Nat} {m:List UInt8} (hs:a.eval s=.slice A m.length sCap)
 {B:Nat} (arr:Arr byE 1 w B A m) (hm:m≠ []) {t:TypeId} {l:List UInt8} (row:RowB w b t l) (hfit:off+dLen<=l.length)
 (h:∀w',RowB w' b t (qbj l off (m.take dLen))->(∀k,k≠b->w'.heap[k]? =w.heap[k]?)->(∀lo w0,Below lo w0 w->lo<=b->Below lo w0 w')->wpList prog ops Q rest (a.put o.dst (.int .i64 (Nat.min m.length dLen:Nat))) w'):
 wpList prog ops Q (o::rest) a w:=by
 rcases arr with h0|⟨sb,so,rfl, -,hc⟩
 · exact absurd h0 hm
 have hsrc:∀j v,(byC (m.take dLen))[j]? =some v->w.cell? ((⟨sb,so,none⟩:Addr).add j)=some v:=λj v hv=>by
  have hj:j<(m.take dLen).length:=by have:=(List.getElem?_eq_some_iff.1 hv).1;rwa [qad]at this
  have hj':j<m.length:=by rw[List.length_take]at hj;omega
  have h1:=hc j hj' 0 (.int .u8 (m[j].toNat:Int)) rfl;rw[byC,List.getElem?_map,List.getElem?_eq_getElem hj,List.getElem_take]at hv;rw[Addr.add_mid,<-hv];simpa using h1
 have hn:(byC (m.take dLen)).length=Nat.min m.length dLen:=by
  rw[qad,List.length_take];exact Nat.min_comm _ _
 have hfit':off+(byC (m.take dLen)).length<=(byC l).toArray.size:=by
  rw[qad,List.length_take,List.size_toArray,qad];omega
 have hr:=run_copy_row (P:=prog) w 86 86 o.type 5 b off dLen dCap ⟨sb,so,none⟩ m.length sCap (byC l).toArray t (byC (m.take dLen)) underlying86 (by
  have:=qcu
  cases hq:prog.info? 5 with
  |none=>rw[hq]at this;cases this
  |some i=>rw[hq]at this;simp at this;simp[this]) row hn hsrc hfit' qcw
 refine qbp w hgd d s 86 86 ho _ _ hd hs hr ?_;have e:((byC l).toArray.toList.take off++byC (m.take dLen)++(byC l).toArray.toList.drop (off+(byC (m.take dLen)).length)).toArray=(byC (qbj l off (m.take dLen))).toArray:=by
  rw[qad];simp[byC,qbj]
 rw[e,show goInt (byC (m.take dLen)).length=Value.int .i64 (Nat.min m.length dLen:Nat)by rw[hn];rfl];exact h _ (setRow_heap w b _ _ t (0,0) row) (λk hk=>setRow_other w b k _ hk) (λlo w0 hb hlo=>below_setRow hb hlo _)
end
section
open Go.RowKit
def zeros(n:Nat):List UInt8:=List.replicate n 0
theorem qf1:(prog.info? 251).map (·.size)=some 64:=by kernel_rfl
def qcd(m:List UInt8):List UInt8:=putL (qbj (zeros 64) 0 m) 9 (sumL 0 m) 4
theorem qah{P:Program}{fn:Func}{p:Tmp}{ty:TypeId}(h:fn.results=#[.cell p ty])(tmps:Array Value)(w:World)(b:Nat)(cs:List Value)(d:TypeDesc)
 (hp:tmps.getD p undef=.pointer (some ⟨b,0,none⟩)) (hc:w.rangeAt b 0 cs) (hu:P.underlying ty=some d) (hd:d.isRow=true) (hi:(P.info? ty).map (·.size)=some cs.length):(results fn tmps).run P w=.ok (.agg cs.toArray) w:=by
 have hp':tmps[p]?.getD undef=.pointer (some ⟨b,0,none⟩):=by simpa using hp
 simp[results,h,hp',asAddr,run_loadVar_mid w b 0 ty cs d hc hu hd hi]
theorem qae{B b:Nat}(hb:B<=b):∀(vs:List Value) (o:Nat) {a:World} (w:World),Below B a w->Below B a (w.setCells b o vs)
 | [],_,_,_,h=>h
 |v::r,o,_,_,h=>qae hb r (o+1) _ (h.setCell (p:=⟨b,o,none⟩) hb v)
theorem qiq(m:List UInt8)(A:Option Addr)(c:Nat)(w:World)(hA:Arr byE 1 w w.heap.size A m)(hm:m.length=9)(hc:m.length<=c)(hmax:c<=9223372036854775807):
 Calls prog 155 #[.slice A m.length c] w λe w'=>e=.returned (.agg (byC (qcd m)).toArray)/\Below w.heap.size w w':=by
 have HA:=hid hA;have HM:=hid hm;have HC:=hid (And.intro hc hmax);have hne:m≠ []:=by intro h;rw[h]at hm;cases hm
 have HNE:=hid hne;clear hA hm hc hmax hne;go_enter func155,ntmps155;go_upto_region 2 with fail;generalize hw2:World.alloc (World.alloc w _) _=w2;have Z0:RowB w2 w.heap.size 251 (zeros 64):=by rw[<-hw2];exact(Below.heap_alloc _ _ _ (by simp)).trans ((qa2 _ _ _).trans (if_pos rfl))
 have Z1:RowB w2 (w.heap.size+1) 251 (zeros 64):=by rw[<-hw2];exact(qa2 _ _ _).trans (by rw[if_pos (by simp)];rfl)
 have b2:Below w.heap.size w w2:=by rw[<-hw2];exact((Below.refl _ _).alloc (Nat.le_refl _) _).alloc (by simp) _
 have HZ0:=hid Z0;have HZ1:=hid Z1;clear hw2 Z0 Z1;go_wp2_with(refine qbd (m:=m) (A:=A) w2 rfl (.tmp 6) (.tmp 7) rfl (by first|rfl|simp[Act.eval]) (by first|rfl|simp[Act.eval]) (HA.out.below b2) HNE.out HZ1.out (by decide) ?_;intro w3 R3 off3 bel3);have HR3:=hid R3;have B3:Below w.heap.size w w3:=bel3 _ _ b2 (by omega);have Z3:RowB w3 w.heap.size 251 (zeros 64):=(off3 _ (by omega)).trans HZ0.out;have HB3:=hid B3;have HZ3:=hid Z3;rw[List.take_of_length_le (by have:=HM.out;omega)]at HR3;have hov:(qbj (zeros 64) 0 m).length=64:=qc1 (by rw[HM.out];decide);have HOV:=hid hov;have hl3:=qa0 HR3.out;have l3:w.heap.size<=w3.heap.size:=B3.size;have HSUM:=hid (qmv (c:=0) (by omega) m);have TP:Hid (∀W,Below w3.heap.size w3 W->Calls prog 154 #[.slice (some ⟨w.heap.size+1,0,none⟩) 64 64,.int .i64 9,.int .i64 4,.int .u64 (sumL 0 m:Nat)] W (qyf (qcd m) W)):=hid λW hW=>by
  have t:=qgp (qbj (zeros 64) 0 m) (some ⟨w.heap.size+1,0,none⟩) 64 9 4 (sumL 0 m) W (((HR3.out.arr0).below hW).more hW.size) (by omega) (by omega) (by rw[hov];omega) (by rw[hov];omega) (by have:=HSUM.out;omega) (by have:=HSUM.out;omega);rw[hov]at t;exact t
 have hsl:(qcd m).length=64:=by rw[qcd,qb7,hov]
 have HSL:=hid hsl;have i1:IntKind.u64.wrap ((sumL 0 m:Nat):Int)=((sumL 0 m:Nat):Int):=by rw[IntKind.wrap_u64];have:=HSUM.out;omega
 clear R3 off3 bel3 b2 Z3 hov B3 hsl;go_upto_region 3 with fail;simp only[Act.put,List.setIfInBounds_toArray,List.set_cons_succ,List.set_cons_zero];go_cut [4,5] (λv4 _ wx=>∃A4 c4,v4=.slice A4 64 c4/\Own byE 5 1 wx w3.heap.size A4 c4 (qcd m)/\Below w3.heap.size w3 wx)
 case first =>
  go_region_held3 (λ_=>True) (trivial) (first|(go_at_call 211;refine(qrr m A c _ ((HA.out.below (show Below w.heap.size w _ from(HB3.out.drew))).more (show Below w.heap.size w _ from HB3.out.drew).size) HC.out.1 HC.out.2).mono ?_;rintro e wS⟨rfl,bS⟩;have stS:Below w3.heap.size w3 wS:=Below.trans (Below.refl _ _).drew (bS.mono (Nat.le_refl _)))|(go_at_call 154;refine(TP.out _ stS).mono ?_;rintro e wP⟨A4,c4,rfl,hownP,bP⟩)|fail);all_goals
   go_wp2_with fail;go_meet;exact⟨A4,c4,by rw[HSL.out],Own.lower hownP stS.size,stS.trans (bP.mono stS.size)⟩
 case rest =>
  obtain⟨A4,c4,rfl,hown,b4⟩:=hcut;obtain⟨w4,hw4⟩:∃x,x=wc:=⟨_,rfl⟩;subst hw4;have Z4:=HZ3.out.below b4 (by omega);have Z5:=HR3.out.below b4 hl3;have HSL64:=hid (show(qcd m)≠ []by intro h;rw[h]at HSL;exact absurd HSL.out (by decide));have HARR:=hid (hown.arr qbn);have HZ4:=hid Z4;have HZ5:=hid Z5;have HB4:=hid b4;clear hown Z4 Z5 b4 i1 TP;have hs64:(qcd m).length=64:=HSL.out;go_upto_region 5 with(refine qbd (m:=qcd m) (A:=A4) w4 rfl (.tmp 17) (.tmp 18) rfl (by first|rfl|simp[Act.eval]) (by rw[hs64];first|rfl|simp[Act.eval]) HARR.out HSL64.out HZ5.out (by rw[qc1 (by rw[HM.out];decide)];decide) ?_;intro w5 R5 off5 bel5);have e5:qbj (qbj (zeros 64) 0 m) 0 ((qcd m).take 64)=qcd m:=by
   rw[List.take_of_length_le (by omega),qbj,List.take_zero,List.nil_append,List.drop_of_length_le (by rw[qc1 (by rw[HM.out];decide),hs64];decide),List.append_nil]
  rw[e5]at R5;have HR5:=hid R5;have B5:=bel5 _ _ (HB3.out.trans (HB4.out.mono l3)) (by omega);have Z5:RowB w5 w.heap.size 251 (zeros 64):=(off5 _ (by omega)).trans HZ4.out;have HZ5':=hid Z5;have HB5:=hid B5;have hl5:=qa0 R5;have hsz:(byC (qcd m)).length=64:=by rw[qad];exact hs64
  have HSZ:=hid hsz;have HIR:Hid ((prog.info? 251).map (·.size)=some (byC (qcd m)).length):=hid (by rw[hsz];exact qf1);have HTH:Hid (w5.there w.heap.size 0 64):=hid λj hj=>by
   have h1:=HZ5'.out.cell (i:=j) (by simpa[zeros]using hj);rw[Nat.zero_add,h1];exact⟨rfl,frozen_of_row w5 _ _ _ _ HZ5'.out⟩
  have HTA:Hid (w5.there w.heap.size 0 (byC (qcd m)).toArray.size):=hid (by rw[show(byC (qcd m)).toArray.size=64 from hsz];exact HTH.out);have HIA:Hid ((prog.info? 251).map (·.size)=some (byC (qcd m)).toArray.size):=hid HIR.out;clear R5 off5 bel5 B5 Z5 e5 hs64 hsz;simp only[Act.put,List.setIfInBounds_toArray,List.set_cons_succ,List.set_cons_zero];go_wp2_with(first|(refine wpList_load_mid rfl 251 (.tmp 3) rfl (w.heap.size+1) 0 (by first|rfl|simp[Act.eval]) (byC (qcd m)) _ HR5.out.range underlying251 rfl HIR.out ?_)|(refine wpList_store_mid rfl 251 (.tmp 2) (.tmp 20) rfl w.heap.size 0 (byC (qcd m)).toArray (by first|rfl|simp[Act.eval]) (by first|rfl|simp[Act.eval]) HTA.out HIA.out (all_oneCell_toArray qcw) ?_));refine bodyPost_ret (v:=.agg (byC (qcd m)).toArray) ?_ rfl ⟨rfl,?_⟩
  · exact qah results155 _ _ w.heap.size _ _ rfl (World.rangeAt_setCells_same w5 w.heap.size 0 (byC (qcd m)) (by rw[HSZ.out];exact HTH.out)) underlying251 rfl HIR.out
  · exact qae (Nat.le_refl _) _ _ _ HB5.out
end
section
open Go.RowKit
def qx5(l:List Bool):List Value:=l.map Value.bool
def clkC(now dur clo:Nat)(oc n:Nat)(noted left:List Bool)(step:Value):List Value:=[.int .u64 (now:Int),.int .u64 (dur:Int),.int .u64 (clo:Int),.slice (some ⟨oc,0,none⟩) n n]++qx5 noted++qx5 left++[step]
structure qbi(w:World)(lo p oc now dur clo:Nat)(owed:List Int)(noted left:List Bool)(step:Value):Prop where
 box:w.heap[p]? =some (.cells (clkC now dur clo oc owed.length noted left step).toArray 150 (0,0))
 rows:w.heap[oc]? =some (.cells (owed.map (Value.int .i64)).toArray 3 (0,0))
 lo:lo<=p/\lo<=oc/\p≠oc
 len:1<=owed.length/\owed.length<=4/\noted.length=258/\left.length=258
section
variable {w:World}{lo p oc now dur clo:Nat}{owed:List Int}{noted left:List Bool}{step:Value}
theorem qbi.c0(h:qbi w lo p oc now dur clo owed noted left step):w.cell? ⟨p,0,none⟩=some (.int .u64 (now:Int)):=by rw[cell_of_row w p 0 _ _ _ h.box];rfl
theorem qbi.c1(h:qbi w lo p oc now dur clo owed noted left step):w.cell? ⟨p,1,none⟩=some (.int .u64 (dur:Int)):=by rw[cell_of_row w p 1 _ _ _ h.box];rfl
theorem qbi.c2(h:qbi w lo p oc now dur clo owed noted left step):w.cell? ⟨p,2,none⟩=some (.int .u64 (clo:Int)):=by rw[cell_of_row w p 2 _ _ _ h.box];rfl
theorem qbi.c3(h:qbi w lo p oc now dur clo owed noted left step):w.cell? ⟨p,3,none⟩=some (.slice (some ⟨oc,0,none⟩) owed.length owed.length):=by rw[cell_of_row w p 3 _ _ _ h.box];rfl
theorem qbi.lt(h:qbi w lo p oc now dur clo owed noted left step):p<w.heap.size:=qa0 h.box
theorem qkh(h:qbi w lo p oc now dur clo owed noted left step):Calls prog 41 #[.pointer (some ⟨p,0,none⟩)] w λe w'=>e=.returned (.int .u64 (now:Int))/\w'=w:=by
 have hp:=h.lt;have T:=hid (qe7 p 0 (now:Int) w h.c0 hp);clear h;go_enter func41,ntmps41;go_wp2_with fail;refine T.out.mono ?_;rintro e w1⟨rfl,rfl⟩;go_wp2_with fail;go_ret;exact⟨rfl,rfl⟩
theorem qx1(h:qbi w lo p oc now dur clo owed noted left step):Calls prog 42 #[.pointer (some ⟨p,0,none⟩)] w λe w'=>e=.returned (.int .u64 (dur:Int))/\w'=w:=by
 have hp:=h.lt;have T:=hid (qe7 p 1 (dur:Int) w h.c1 hp);clear h;go_enter func42,ntmps42;go_wp2_with fail;refine T.out.mono ?_;rintro e w1⟨rfl,rfl⟩;go_wp2_with fail;go_ret;exact⟨rfl,rfl⟩
theorem qbi.owe(h:qbi w lo p oc now dur clo owed noted left step){t:Nat}(_ht:t<owed.length)(v:Int):qbi (w.setCell ⟨oc,t,none⟩ (.int .i64 v)) lo p oc now dur clo (owed.set t v) noted left step:=by
 refine⟨by rw[List.length_set];exact(Below.heap_setCell _ _ _ _ h.lo.2.2).trans h.box,?_,h.lo,by rw[List.length_set];exact h.len⟩;have:=heap_setCell_same w oc t _ _ (.int .i64 v) h.rows;rw[this,List.map_set,List.setIfInBounds_toArray]
theorem qtm{now dur clo oc n:Nat}{noted left:List Bool}{step:Value}{i:Nat}(hi:i<noted.length)(v:Bool):(clkC now dur clo oc n noted left step).set (4+i) (.bool v)=clkC now dur clo oc n (noted.set i v) left step:=by
 unfold clkC qx5;simp only[List.append_assoc];rw[List.set_append_right _ _ (by simp),List.set_append_left _ _ (by simp;omega),List.map_set];simp
theorem qbi.note(h:qbi w lo p oc now dur clo owed noted left step){i:Nat}(hi:i<258):qbi (w.setCell ⟨p,4+i,none⟩ (.bool true)) lo p oc now dur clo owed (noted.set i true) left step:=by
 refine⟨?_,(Below.heap_setCell _ _ _ _ (Ne.symm h.lo.2.2)).trans h.rows,h.lo,by rw[List.length_set];exact h.len⟩;have:=heap_setCell_same w p (4+i) _ _ (.bool true) h.box;rw[this,List.setIfInBounds_toArray,qtm (by have:=h.len;omega)]
theorem qbi.atNote(h:qbi w lo p oc now dur clo owed noted left step){i:Nat}(hi:i<258):∃b:Bool,w.cell? ⟨p,4+i,none⟩=some (.bool b)/\w.frozen? ⟨p,4+i,none⟩=false:=by
 have hl:=h.len;refine⟨noted[i],?_,frozen_of_row w p _ _ _ h.box⟩;rw[cell_of_row w p _ _ _ _ h.box,List.getElem?_toArray];unfold clkC qx5;simp only[List.append_assoc];rw[List.getElem?_append_right (by simp),List.getElem?_append_left (by simp;omega),List.getElem?_map];simp only[List.length_cons,List.length_nil,Nat.add_sub_cancel_left];rw[List.getElem?_eq_getElem (by omega)];rfl
end
theorem qvw(w:World)(lo p oc now dur clo:Nat)(owed:List Int)(noted left:List Bool)(step:Value)(h:qbi w lo p oc now dur clo owed noted left step)(t i:Nat)(ht:t<owed.length)(hi:i<258):Calls prog 269 #[.pointer (some ⟨p,0,none⟩),.int .i64 (t:Int),.int .i64 (i:Int)] w λe w'=>e=.returned (.int .i64 0)/\(∃owed',owed'.length=owed.length/\qbi w' lo p oc now dur clo owed' (noted.set i true) left step)/\(∀b,b≠p->b≠oc->w'.heap[b]? =w.heap[b]?)/\Below lo w w':=by
 have H:=hid h;have hp:=h.lt;have p3:=h.c3;have hoc:=qa0 h.rows;have n0:w.cell? ⟨oc,t,none⟩=some (.int .i64 owed[t]):=by
  rw[cell_of_row w oc t _ _ _ h.rows,List.getElem?_toArray,List.getElem?_map,List.getElem?_eq_getElem ht];rfl
 have f0:=frozen_of_row w oc t _ _ h.rows;obtain⟨b0,m0,g0⟩:=h.atNote hi;have hpo:=h.lo.2.2;have hlo:=h.lo;have hti:(t:Int)<(owed.length:Int):=by omega
 have hii:(i:Int)<258:=by omega
 clear h;generalize owed[t]=v at *;go_enter func269,ntmps269;go_wp2_with fail;go_ret;exact⟨rfl,⟨owed.set t _,by simp,(H.out.owe ht _).note hi⟩,(λb h1 h2=>(Below.heap_setCell _ _ _ _ h1).trans (Below.heap_setCell _ _ _ _ h2)),((Below.refl lo w).setCell hlo.2.1 _).setCell hlo.1 _⟩
end
section
open Go.RowKit
theorem qle{l m:List UInt8}(h:m.length=l.length):qbj l 0 m=m:=by
 rw[qbj,List.take_zero,List.nil_append,List.drop_of_length_le (by omega),List.append_nil]
def qug(b:Nat)(t:TypeId)(l:List UInt8)(w:World)(e:Ending)(w':World):Prop:=e=.returned (.tuple #[])/\RowB w' b t l/\(∀k,k<w.heap.size->k≠b->w'.heap[k]? =w.heap[k]?)/\∀lo,lo<=b->lo<=w.heap.size->Below lo w w'
theorem qfb(w:World)(b:Nat)(t:TypeId)(l:List UInt8)(h:RowB w b t l)(at' n v:Nat)(c:Nat)(h1:1<=n)(h2:n<=8)(h3:at'+n<=l.length)(h4:l.length<=1000000)(hv:v<256^n)(hv8:v<18446744073709551616):
 Calls prog 228 #[.slice (some ⟨b,0,none⟩) l.length c,.int .i64 (at':Int),.int .i64 (n:Int),.int .u64 (v:Int)] w (qug b t (putL l at' v n) w):=by
 have H:=hid h;have TP:=hid (qgp l (some ⟨b,0,none⟩) c at' n v w h.arr0 h1 h2 h3 h4 hv hv8);have hb:=qa0 h;have hl0:0<l.length:=by omega
 clear h;go_enter func228,ntmps228;go_wp2_with fail;refine TP.out.mono ?_;rintro e w1⟨A,ca,rfl,hown,hbl⟩;have HO:=hid hown;have HB:=hid hbl;have R1:=H.out.below hbl hb;have HR:=hid R1;have hpl:(putL l at' v n).length=l.length:=qb7 l at' v n;have HPL:=hid hpl;clear hown hbl R1 hpl;go_wp2_with(refine qbd (m:=putL l at' v n) (A:=A) w1 rfl (.tmp 18) (.tmp 19) rfl (by first|rfl|simp[Act.eval]) (by first|rfl|simp[Act.eval]) (HO.out.arr qbn) (by intro h;rw[h]at HPL;have:=HPL.out;simp at this;omega) HR.out (by omega) ?_;intro w2 R2 off2 bel2);have HR2:RowB w2 b t (putL l at' v n):=by
  rw[List.take_of_length_le (by have:=HPL.out;omega),qle HPL.out]at R2;exact R2
 refine bodyPost_ret (v:=.tuple #[]) (by simp[results,results228]) rfl ⟨rfl,HR2,λk hk hkb=>(off2 k hkb).trans (HB.out.block k hk),λlo hlo hlw=>bel2 lo w (HB.out.mono hlw) hlo⟩
theorem qgw(l:List UInt8)(A:Option Addr)(c at' n:Nat)(w:World)(hA:Arr byE 1 w w.heap.size A l)(h1:1<=n)(h2:n<=8)(h3:at'+n<=l.length)(h4:l.length<=1000000)(hc:l.length<=c)(hm:c<=9223372036854775807):
 Calls prog 130 #[.slice A l.length c,.int .i64 (at':Int),.int .i64 (n:Int)] w λe w'=>e=.returned (.int .u64 (getL l at' n:Nat))/\w'=w:=by
 have T:=hid (qwk l A c at' n w hA h1 h2 h3 h4 hc hm);clear hA;go_enter func130,ntmps130;go_wp2_with fail;refine T.out.mono ?_;rintro e w1⟨rfl,rfl⟩;go_wp2_with fail;go_ret;exact⟨rfl,rfl⟩
def qau(v:Nat):Bool:=decide (1<=v)&&decide (v<=2305843009213693952)
theorem qfv(v:Nat)(w:World):Calls prog 227 #[.int .u64 (v:Int)] w λe w'=>e=.returned (.bool (qau v))/\w'=w:=by
 by_cases h1:1<=v
 · by_cases h2:v<=2305843009213693952
   · have e:qau v=true:=by simp[qau,h1,h2]
     have h1':(1:Int)<=(v:Int):=by omega
     have h2':(v:Int)<=2305843009213693952:=by omega
     rw[e];go_enter func227,ntmps227;go_wp2_with fail;go_ret;exact⟨rfl,rfl⟩
   · have e:qau v=false:=by simp[qau,h2]
     have h1':(1:Int)<=(v:Int):=by omega
     have h2':¬(v:Int)<=2305843009213693952:=by omega
     rw[e];go_enter func227,ntmps227;go_wp2_with fail;go_ret;exact⟨rfl,rfl⟩
 · have e:qau v=false:=by simp[qau,h1]
   have h1':¬(1:Int)<=(v:Int):=by omega
   rw[e];go_enter func227,ntmps227;go_wp2_with fail;go_ret;exact⟨rfl,rfl⟩
end
end Go.Proofs.YtecikkjbnkhhkaaGreat
