/- A part of the walk. -/
import Derived.Test.YtecikkjbnkhhkaaGreatP08
import Derived.Test.YtecikkjbnkhhkaaGreatP11
namespace Go.Proofs.YtecikkjbnkhhkaaGreat
open _root_.Go.Proofs.Tryz
set_option maxHeartbeats 4000000
set_option maxRecDepth 100000
section
open Go.RowKit
def Rise(l:List qa3):Prop:=l.Pairwise (λx y=>kl x.key y.key=true)
def posL(l:List qa3)(key:ByteArray):Nat:=l.findIdx (λx=> !kl x.key key)
def hasL(l:List qa3)(key:ByteArray):Bool:=l.any λx=>decide (x.key=key)
def setL(l:List qa3)(x:qa3):List qa3:=l.filter (λy=>kl y.key x.key)++x::l.filter (λy=>kl x.key y.key)
def qd9(l:List qa3)(key:ByteArray):List qa3:=l.filter (λy=> !decide (y.key=key))
def onLv(i:Nat)(y:qa3):Bool:=decide (i<qgn y.key)
def atLv(l:List qa3)(i:Nat):List qa3:=l.filter (onLv i)
theorem qsq(a b:ByteArray):kl a b=true\/a=b\/kl b a=true:=by
 cases h:kl a b with
 |true=>exact .inl rfl
 |false =>
  cases h':kl b a with
  |true=>exact .inr (.inr rfl)
  |false=>exact .inr (.inl (qp0 h h'))
theorem qd7{a b:ByteArray}(h:a=b):kl a b=false:=by subst h;exact qdh _
theorem qdo:∀(l:List qa3) (key:ByteArray),Rise l->∃A m B,l=A++(m++B)/\(∀a∈A,kl a.key key=true)/\(∀b∈B,kl key b.key=true)/\(m=[]\/∃y,m=[y]/\y.key=key)
 | [],key,_=>⟨[],[],[],rfl,by simp,by simp,.inl rfl⟩
 |x::l,key,h=>by
  have h1:=List.pairwise_cons.1 h
  rcases qsq x.key key with hx|hx|hx
  · obtain⟨A,m,B,e,hA,hB,hm⟩:=qdo l key h1.2
    exact⟨x::A,m,B,by rw[e];rfl,by intro a ha;rcases List.mem_cons.1 ha with rfl|ha;exact hx;exact hA a ha,hB,hm⟩
  · exact⟨[],[x],l,rfl,by simp,λb hb=>hx ▸ h1.1 b hb,.inr ⟨x,rfl,hx⟩⟩
  · exact⟨[],[],x::l,rfl,by simp,by intro b hb;rcases List.mem_cons.1 hb with rfl|hb;exact hx;exact qeh hx (h1.1 b hb),.inl rfl⟩
section
variable {A m B:List qa3}{key:ByteArray}(hA:∀a∈A,kl a.key key=true)(hB:∀b∈B,kl key b.key=true)(hm:m=[]\/∃y,m=[y]/\y.key=key)
include hA hB hm
theorem qke:posL (A++(m++B)) key=A.length:=by
 unfold posL;rw[List.findIdx_append];have e:List.findIdx (λx:qa3=> !kl x.key key) A=A.length:=by
  rw[List.findIdx_eq_length];intro a ha;simp[hA a ha]
 rw[if_neg (by omega)];have e2:List.findIdx (λx:qa3=> !kl x.key key) (m++B)=0:=by
  rcases hm with rfl|⟨y,rfl,hy⟩
  · cases B with
    |nil=>rfl
    |cons b B=>rw[List.nil_append,List.findIdx_cons,qei (hB b (by simp))];rfl
  · rw[List.cons_append,List.findIdx_cons,qd7 hy];rfl
 omega
theorem qkf:hasL (A++(m++B)) key= !m.isEmpty:=by
 unfold hasL;rw[List.any_append,List.any_append];have e1:A.any (λx=>decide (x.key=key))=false:=by rw[List.any_eq_false];intro a ha;simpa using qsr (hA a ha)
 have e2:B.any (λx=>decide (x.key=key))=false:=by rw[List.any_eq_false];intro b hb;simpa using(qsr (hB b hb)).symm
 rw[e1,e2];rcases hm with rfl|⟨y,rfl,hy⟩ <;> simp[*]
theorem qwt:(A++(m++B)).filter (λy=>kl y.key key)=A:=by
 rw[List.filter_append,List.filter_append];have e1:A.filter (λy=>kl y.key key)=A:=by rw[List.filter_eq_self];exact hA
 have e2:B.filter (λy=>kl y.key key)=[]:=by rw[List.filter_eq_nil_iff];intro b hb;simp[qei (hB b hb)]
 rw[e1,e2];rcases hm with rfl|⟨y,rfl,hy⟩
 · simp
 · simp[qd7 hy]
theorem qws:(A++(m++B)).filter (λy=>kl key y.key)=B:=by
 rw[List.filter_append,List.filter_append];have e1:A.filter (λy=>kl key y.key)=[]:=by rw[List.filter_eq_nil_iff];intro b hb;simp[qei (hA b hb)]
 have e2:B.filter (λy=>kl key y.key)=B:=by rw[List.filter_eq_self];exact hB
 rw[e1,e2];rcases hm with rfl|⟨y,rfl,hy⟩
 · simp
 · simp[qd7 hy.symm]
theorem qwu:qd9 (A++(m++B)) key=A++B:=by
 unfold qd9;rw[List.filter_append,List.filter_append];have e1:A.filter (λy=> !decide (y.key=key))=A:=by rw[List.filter_eq_self];intro a ha;simpa using qsr (hA a ha)
 have e2:B.filter (λy=> !decide (y.key=key))=B:=by rw[List.filter_eq_self];intro b hb;simpa using(qsr (hB b hb)).symm
 rw[e1,e2];rcases hm with rfl|⟨y,rfl,hy⟩ <;> simp[*]
theorem qhv{x:qa3}(hx:x.key=key):setL (A++(m++B)) x=A++x::B:=by
 subst hx;rw[setL,qwt hA hB hm,qws hA hB hm]
end
theorem qvn{l:List qa3}{x:qa3}(h:Rise l)(hh:hasL l x.key=true):posL l x.key<l.length/\setL l x=l.set (posL l x.key) x:=by
 obtain⟨A,m,B,rfl,hA,hB,hm⟩:=qdo l x.key h;rw[qkf hA hB hm]at hh;rw[qke hA hB hm,qhv hA hB hm rfl];rcases hm with rfl|⟨y,rfl,hy⟩
 · simp at hh
 · simp
theorem qvl{l:List qa3}{x:qa3}(h:Rise l)(hh:hasL l x.key=false):posL l x.key<=l.length/\setL l x=ins l (posL l x.key) x:=by
 obtain⟨A,m,B,rfl,hA,hB,hm⟩:=qdo l x.key h;rw[qkf hA hB hm]at hh;rw[qke hA hB hm,qhv hA hB hm rfl];rcases hm with rfl|⟨y,rfl,hy⟩
 · simp[ins]
 · simp at hh
theorem qth{l:List qa3}{key:ByteArray}(h:Rise l)(hh:hasL l key=true):posL l key<l.length/\qd9 l key=l.take (posL l key)++l.drop (posL l key+1):=by
 obtain⟨A,m,B,rfl,hA,hB,hm⟩:=qdo l key h;rw[qkf hA hB hm]at hh;rw[qke hA hB hm,qwu hA hB hm];rcases hm with rfl|⟨y,rfl,hy⟩
 · simp at hh
 · simp
theorem qj6{l:List qa3}{key:ByteArray}(hh:hasL l key=false):qd9 l key=l:=by
 unfold qd9;rw[List.filter_eq_self];intro a ha;rw[hasL,List.any_eq_false]at hh;simpa using hh a ha
theorem qvo{l:List qa3}(h:Rise l)(x:qa3):Rise (setL l x):=by
 obtain⟨A,m,B,rfl,hA,hB,hm⟩:=qdo l x.key h;rw[qhv hA hB hm rfl];unfold Rise at h ⊢;rw[List.pairwise_append]at h ⊢;refine⟨h.1,?_,?_⟩
 · rw[List.pairwise_cons]
   exact⟨λb hb=>hB b hb,(List.pairwise_append.1 h.2.1).2.1⟩
 · intro a ha b hb
   rcases List.mem_cons.1 hb with rfl|hb
   · exact hA a ha
   · exact h.2.2 a ha b (by simp[hb])
theorem qhe{l:List qa3}(h:Rise l)(p:qa3->Bool):Rise (l.filter p):=List.Pairwise.filter p h
theorem qrz{l:List qa3}(h:Rise l)(key:ByteArray):Rise (qd9 l key):=qhe h _
theorem qhd{l:List qa3}(h:Rise l)(i:Nat):Rise (atLv l i):=qhe h _
theorem qAm{l:List qa3}(h:Rise l)(x:qa3)(i:Nat):atLv (setL l x) i=if i<qgn x.key then setL (atLv l i) x else atLv l i:=by
 obtain⟨A,m,B,rfl,hA,hB,hm⟩:=qdo l x.key h;rw[qhv hA hB hm rfl];unfold atLv;have e:(A++(m++B)).filter (onLv i)=A.filter (onLv i)++(m.filter (onLv i)++B.filter (onLv i)):=by simp
 rw[e,List.filter_append,List.filter_cons];split
 · rename_i hi
   rw[if_pos (by simpa[onLv]using hi),qhv (key:=x.key) (λa ha=>hA a (List.mem_filter.1 ha).1) (λb hb=>hB b (List.mem_filter.1 hb).1) ?_ rfl];rcases hm with rfl|⟨y,rfl,hy⟩
   · simp
   · right
     exact⟨y,by rw[List.filter_cons,if_pos (by simpa[onLv,hy]using hi)];rfl,hy⟩
 · rename_i hi
   rw[if_neg (by simpa[onLv]using hi)];rcases hm with rfl|⟨y,rfl,hy⟩
   · simp
   · rw[List.filter_cons,if_neg (by simpa[onLv,hy]using hi)];simp
theorem qsh(l:List qa3)(key:ByteArray)(i:Nat):atLv (qd9 l key) i=qd9 (atLv l i) key:=by
 unfold atLv qd9;rw[List.filter_filter,List.filter_filter];congr 1;funext y;rw[Bool.and_comm]
theorem qlk{l:List qa3}{key:ByteArray}{i:Nat}(hi:¬i<qgn key):atLv (qd9 l key) i=atLv l i:=by
 rw[qsh];refine qj6 ?_;rw[hasL,List.any_eq_false];intro x hx;have:=(List.mem_filter.1 hx).2;simp[onLv]at this;simp;rintro rfl;exact hi this
theorem qy7{l:List qa3}{key:ByteArray}{i:Nat}(hi:i<qgn key):hasL (atLv l i) key=hasL l key:=by
 unfold hasL atLv;rw[List.any_filter];congr 1;funext x;by_cases e:x.key=key
 · simp[e,onLv,hi]
 · simp[e]
theorem qvm(l:List qa3)(x:qa3):(setL l x).length<=l.length+1:=by
 unfold setL;rw[List.length_append,List.length_cons];have:∀l:List qa3,(l.filter (λy=>kl y.key x.key)).length+(l.filter (λy=>kl x.key y.key)).length<=l.length:=by
  intro l;induction l with
  |nil=>simp
  |cons a l ih =>
   rw[List.filter_cons,List.filter_cons];cases h1:kl a.key x.key with
   |true=>rw[qei h1];simp;omega
   |false =>
    cases h2:kl x.key a.key with
    |true=>simp;omega
    |false=>simp;omega
 have:=this l;omega
theorem qtg(l:List qa3)(key:ByteArray):(qd9 l key).length<=l.length:=List.length_filter_le _ _
theorem qy2(l:List qa3)(i:Nat):(atLv l i).length<=l.length:=List.length_filter_le _ _
end
section
open Go.RowKit
def quz(S:List qan)(c:Int)(i k:Nat)(ok:Bool):Prop:=
 (ok=true->∃hi:i<S.length,k<8/\((S[i].cls=c/\k<8/qa9 c/\∃hk:k<S[i].taken.length,S[i].taken[k]=false)\/(S[i].cls= -1/\k=0/\∀j (hj:j<S.length),j<i->¬S[j].cls= -1))) /\
 (ok=false->∀j (hj:j<S.length),¬S[j].cls= -1)
def qur(S:List qan)(c:Int)(w:World)(e:Ending)(w':World):Prop:=w'=w/\∃(i k:Nat) (ok:Bool),e=.returned (.tuple #[.int .i64 (i:Int),.int .i64 (k:Int),.bool ok])/\quz S c i k ok
theorem qwn(w:World)(lo p sc:Nat)(S:List qan)(h:qb8 w lo p sc S)(c:Int)(hc:¬qa9 c=0):Calls prog 336 #[.pointer (some ⟨p,0,none⟩),.int .i64 c] w (qur S c w):=by
 have H:=hid h;have hp:=qa0 h.box;have p0:=cell_of_row w p 0 _ _ _ h.box;have hlen:=h.len;have T:=hid (qhi w lo p sc S h);have hsc:=(h.slab (i:=0) (by omega)).lt;clear h;go_enter func336,ntmps336;go_wp2_with fail;refine T.out.mono ?_;rintro e w1⟨rfl,rfl⟩;go_wp2_with fail;go_loopw [7,8,9,14] (λ_ _ _ v14 wr=>∃i:Nat,i<=S.length/\v14=.int .i64 i/\wr=w1) (λ_ _ _ v14 _=>S.length-(intOf v14).toNat)
 case atStart=>exact⟨0,by omega,rfl,rfl⟩
 case round =>
  obtain⟨i,hi,rfl,rfl⟩:=hrel;by_cases hlt:i<S.length
  · have hlti:(i:Int)<(S.length:Int):=by omega
    have hs:=H.out.slab hlt;have c0:=hs.cls;have HS:=hid hs;by_cases hcc:S[i].cls=c
    · have HFR:=hid (qt4 wr sc i S[i] hs (by rw[hcc];exact hc))
      have hce:(S[i].cls==c)=true:=by rw[beq_iff_eq];exact hcc
      have HCC:=hid hcc;clear hs hcc;go_wp2_with fail;refine HFR.out.mono ?_;rintro e w2⟨rfl,r,rfl,hr⟩;rcases hr with⟨rfl, -⟩|⟨k,hk,rfl,hkq,hkf⟩
      · clear hce
        go_wp2_with fail;exact⟨⟨i+1,by omega,by go_num,trivial⟩,by simp[intOf];omega⟩
      · have hne:((k:Int)== -1)=false:=by rw[beq_eq_false_iff_ne];omega
        have hne':((k:Int) != -1)=true:=by rw[bne_iff_ne];omega
        have HK:=hid (And.intro hkq (And.intro hk hkf));clear hkq hkf hce;go_wp2_with fail;have h8:k<8:=by rw[S[i].ht]at hk;exact hk
        refine bodyPost_ret (v:=.tuple #[.int .i64 (i:Int),.int .i64 (k:Int),.bool true]) (by simp[results,results336]) rfl ⟨rfl,i,k,true,rfl,λ_=>⟨hlt,h8,.inl ⟨HCC.out,by rw[<-HCC.out];exact HK.out.1,HK.out.2.1,HK.out.2.2⟩⟩,λh=>by cases h⟩
    · have hce:(S[i].cls==c)=false:=by rw[beq_eq_false_iff_ne];exact hcc
      clear hs hcc;go_wp2_with fail;exact⟨⟨i+1,by omega,by go_num,trivial⟩,by simp[intOf];omega⟩
  · obtain rfl:i=S.length:=by omega
    go_wp2_with fail;refine T.out.mono ?_;rintro e w2⟨rfl,rfl⟩;go_wp2_with fail;obtain⟨wo,hwo⟩:∃x,x=w2:=⟨_,rfl⟩;subst hwo;clear hi hlt;go_loopw [10,39] (λ_ v39 wr=>∃i:Nat,i<=S.length/\v39=.int .i64 i/\wr=wo/\∀j (hj:j<S.length),j<i->¬S[j].cls= -1) (λ_ v39 _=>S.length-(intOf v39).toNat)
    case atStart=>exact⟨0,by omega,rfl,rfl,λj _ hj=>absurd hj (by omega)⟩
    case round =>
     obtain⟨i,hi,rfl,rfl,hall⟩:=hrel;have HALL:=hid hall;clear hall;by_cases hlt:i<S.length
     · have hlti:(i:Int)<(S.length:Int):=by omega
       have hs:=H.out.slab hlt;have c0:=hs.cls;by_cases hcc:S[i].cls= -1
       · have HCC:=hid hcc
         rw[hcc]at c0;clear hs hcc;go_wp2_with fail;refine bodyPost_ret (v:=.tuple #[.int .i64 (i:Int),.int .i64 0,.bool true]) (by simp[results,results336]) rfl ⟨rfl,i,0,true,rfl,λ_=>⟨hlt,by omega,.inr ⟨HCC.out,rfl,HALL.out⟩⟩,λh=>by cases h⟩
       · have HCC:=hid hcc
         have hce:(S[i].cls== -1)=false:=by rw[beq_eq_false_iff_ne];exact hcc
         clear hs hcc;go_wp2_with fail;exact⟨⟨i+1,by omega,by go_num,trivial,λj hj hji=>by
          rcases(by omega:j<i\/j=i)with h1|rfl
          · exact HALL.out j hj h1
          · exact HCC.out⟩,by simp[intOf];omega⟩
     · obtain rfl:i=S.length:=by omega
       go_wp2_with fail;refine bodyPost_ret (v:=.tuple #[.int .i64 0,.int .i64 0,.bool false]) (by simp[results,results336]) rfl ⟨rfl,0,0,false,rfl,λh=>(by cases h),λ_ j hj=>HALL.out j hj hj⟩
end
section
open Go.RowKit
def qch(kind:Int)(key val to':ByteArray)(A:Option Addr)(n c:Nat):List Value:=
 [.int .i64 kind,.string key,.string val,.string to',.slice A n c,.int .i64 0,.int .u64 0,.string ByteArray.empty,.bool false,.int .i64 0,.bool false,.string ByteArray.empty,.int .u64 0,.int .u64 0,.int .i64 0,.int .i64 0,
  .int .i64 (-1),.int .i64 0,.int .i64 0,.slice none 0 0,.int .i64 0,.slice none 0 0,.int .i64 0,.bool false,.string ByteArray.empty,.slice none 0 0,.slice none 0 0,.int .u64 0]
theorem qlv(kind:Int)(key val to':ByteArray)(A:Option Addr)(n c:Nat):∀v∈qch kind key val to' A n c,v.oneCell'=true:=by
 intro v hv;unfold qch at hv;repeat(rcases List.mem_cons.1 hv with rfl|hv;rfl)
 cases hv
theorem qaf:(prog.info? 89).map (·.size)=some 28:=by kernel_rfl
theorem qai{w:World}{b:Nat}{cur:Array Value}{e:TypeId}{n:Nat}(h:w.heap[b]? =some (.cells cur e (0,0)))(hn:cur.size=n):w.there b 0 n:=λj hj=>by
 rw[Nat.zero_add,cell_of_row w b j cur e _ h]
 exact⟨by rw[Array.getElem?_eq_getElem (by omega)];rfl,frozen_of_row w b j cur e h⟩
def qoc(kind:Int)(key val to':ByteArray)(w:World)(e:Ending)(w':World):Prop:=
 ∃A c,e=.returned (.agg (qch kind key val to' A 0 c).toArray)/\c<=9223372036854775807/\Below w.heap.size w w'
theorem qjb(kind:Int)(key val to':ByteArray)(A:Option Addr)(c:Nat)(w:World)(hm:c<=9223372036854775807):
 Calls prog 81 #[.agg #[.int .i64 kind,.string key,.string val,.string to',.slice A 0 c]] w (qoc kind key val to' w):=by
 go_enter func81,ntmps81;go_wp2_with fail;refine(qhx [] A c _ Arr.nil (Nat.zero_le _) hm (by simp)).mono ?_;rintro e w1⟨A1,c1,rfl,hown,hb1⟩;simp only[List.length_nil];have hz:=hb1.size;simp only[World.size_alloc]at hz;have hc1:=hown.max;have BX:w1.heap[w.heap.size]? =some (.cells #[.int .i64 kind,.string key,.string val,.string to',.slice A 0 c] 40 (0,0)):=(hb1.block _ (by simp;omega)).trans (by rw[qa2,if_neg (by simp),qa2,if_pos rfl]);obtain⟨cur,BY,hcur⟩:∃cur,w1.heap[w.heap.size+1]? =some (.cells cur 89 (0,0))/\cur.size=28:=⟨_,(hb1.block _ (by simp)).trans (by rw[qa2,if_pos (by simp)]),rfl⟩;have x0:=cell_of_row w1 _ 0 _ _ _ BX;have x1:=cell_of_row w1 _ 1 _ _ _ BX;have x2:=cell_of_row w1 _ 2 _ _ _ BX;have x3:=cell_of_row w1 _ 3 _ _ _ BX;have x4:=cell_of_row w1 _ 4 _ _ _ BX;have f4:=frozen_of_row w1 _ 4 _ _ BX;have hl1:w.heap.size<w1.heap.size:=by omega
 have hl2:w.heap.size+1<w1.heap.size:=by omega
 have bw1:Below w.heap.size w w1:=Below.trans (by repeat(first|exact Below.refl _ _|assumption|refine Below.drew ?_|refine qa1 ?_ _|refine Below.alloc ?_ (by first|omega|simp <;> omega) _|refine Below.setCell ?_ (by first|omega|simp <;> omega) _)) (hb1.mono (show w.heap.size<=_ from(by first|omega|simp <;> omega)));have HCU:=hid hcur;clear hown hb1 hcur;go_wp2_with fail;obtain⟨W,hW⟩:∃W,W=w1.setCell ⟨w.heap.size,4,none⟩ (.slice A1 0 c1):=⟨_,rfl⟩;rw[<-hW];have y0:W.cell? ⟨w.heap.size,0,none⟩=some (.int .i64 kind):=by rw[hW];simp[go_sem,x0]
 have y1:W.cell? ⟨w.heap.size,1,none⟩=some (.string key):=by rw[hW];simp[go_sem,x1]
 have y2:W.cell? ⟨w.heap.size,2,none⟩=some (.string val):=by rw[hW];simp[go_sem,x2]
 have y3:W.cell? ⟨w.heap.size,3,none⟩=some (.string to'):=by rw[hW];simp[go_sem,x3]
 have y4:W.cell? ⟨w.heap.size,4,none⟩=some (.slice A1 0 c1):=by rw[hW];simp[go_sem,x4]
 have bwW:Below w.heap.size w W:=by rw[hW];exact bw1.setCell (Nat.le_refl _) _
 have BYW:W.heap[w.heap.size+1]? =some (.cells cur 89 (0,0)):=by
  rw[hW];exact(Below.heap_setCell _ _ _ _ (by show w.heap.size+1≠w.heap.size;omega)).trans BY
 clear hW x0 x1 x2 x3 x4 f4 BX BY bw1;have HT:=hid (qai BYW HCU.out);have HB:=hid bwW;clear BYW bwW;go_loopw [12] (λvi wr=>vi=.int .i64 0/\wr=W) (λ_ _=>0)
 case atStart=>exact⟨rfl,rfl⟩
 case round =>
  obtain⟨rfl,rfl⟩:=hrel;have HS:=hid (all_oneCell_toArray (qlv kind key val to' A1 0 c1));go_wp2_with(refine wpList_store_mid (by first|rfl|(exfalso;fail)) 89 (.tmp 2) (.tmp 28) (by first|rfl|fail) (w.heap.size+1) 0 (qch kind key val to' A1 0 c1).toArray rfl (by rfl) HT.out qaf HS.out ?_);refine bodyPost_ret (v:=.agg (qch kind key val to' A1 0 c1).toArray) ?_ rfl ⟨A1,c1,rfl,hc1,?_⟩
  · exact qah results81 _ _ (w.heap.size+1) _ _ rfl (World.rangeAt_setCells_same wr (w.heap.size+1) 0 (qch kind key val to' A1 0 c1) HT.out) underlying89 rfl qaf
  · exact qae (by omega) _ _ _ HB.out
end
end Go.Proofs.YtecikkjbnkhhkaaGreat
