/- A part of the walk. -/
import Derived.Test.YtecikkjbnkhhkaaGreatP14
import Derived.Test.YtecikkjbnkhhkaaGreatP09
namespace Go.Proofs.YtecikkjbnkhhkaaGreat
open _root_.Go.Proofs.Tryz
set_option maxHeartbeats 4000000
set_option maxRecDepth 100000
section
open Go.RowKit
theorem qgv(x:qa3)(key:ByteArray)(w:World):Calls prog 349 #[.agg #[.string x.key,.int .u64 x.id,.int .u64 x.ver,.int .i64 x.line,.int .i64 x.cls],.string key] w λe w'=>e=.returned (.int .i64 (cmpB x.key key))/\Below w.heap.size w w':=by
 go_enter func349,ntmps349;go_wp2_with(go_at_call 96;refine(qtj _ _ _).mono ?_;rintro e w'⟨rfl,rfl⟩);go_ret;exact⟨rfl,(by repeat(first|exact Below.refl _ _|assumption|refine Below.drew ?_|refine qa1 ?_ _|refine Below.alloc ?_ (by first|omega|simp <;> omega) _|refine Below.setCell ?_ (by first|omega|simp <;> omega) _))⟩
theorem qyr{l:List qa3}{key:ByteArray}{i:Nat}(h1:∀q,(hq:q<l.length)->q<i->kl l[q].key key=true)(h2:∀q,(hq:q<l.length)->i<=q->kl l[q].key key=false)(hi:i<=l.length):posL l key=i:=by
 unfold posL;by_cases hlt:i<l.length
 · rw[List.findIdx_eq hlt]
   exact⟨by simp[h2 i hlt (Nat.le_refl _)],λj hj=>by simp[h1 j (by omega) hj]⟩
 · obtain rfl:i=l.length:=by omega
   rw[List.findIdx_eq_length];intro x hx;obtain⟨q,hq,rfl⟩:=List.mem_iff_getElem.1 hx;simp[h1 q hq hq]
theorem qry{l:List qa3}(h:Rise l){i j:Nat}(hj:j<l.length)(hij:i<j):kl (l[i]'(by omega)).key l[j].key=true:=List.pairwise_iff_getElem.1 h i j (by omega) hj hij
theorem qzc{l:List qa3}(h:Rise l){key:ByteArray}{i:Nat}(hp:posL l key=i):hasL l key=decide (∃hi:i<l.length,l[i].key=key):=by
 subst hp;obtain⟨A,m,B,rfl,hA,hB,hm⟩:=qdo l key h;rw[qkf hA hB hm];have hp:=qke hA hB hm;rcases hm with rfl|⟨y,rfl,hy⟩
 · symm
   simp only[List.isEmpty_nil,Bool.not_true,decide_eq_false_iff_not,hp];rintro⟨hi,he⟩;cases B with
   |nil=>simp at hi
   |cons b B=>simp at he;exact qsr (hB b (by simp)) he.symm
 · symm
   simp only[List.isEmpty_cons,Bool.not_false,decide_eq_true_eq,hp];exact⟨by simp,by simpa using hy⟩
theorem qq1(l:List qa3)(hl:Rise l)(A:Option Addr)(c:Nat)(key:ByteArray)(w:World)(hA:Arr qa3.enc 5 w w.heap.size A l)(_hc:l.length<=c)(_hm:c<=9223372036854775807)(hb:l.length<=100000):
 Calls prog 348 #[.slice A l.length c,.string key,.func (.func 349) #[] #[]] w λe w'=>e=.returned (.tuple #[.int .i64 (posL l key:Nat),.bool (hasL l key)])/\Below w.heap.size w w':=by
 have HA:=hid hA;have HL:=hid hl;clear hA hl;go_enter func348,ntmps348;go_wp2_with fail;go_loopw [9,10] (λvi vj wr=>∃i j:Nat,vi=.int .i64 i/\vj=.int .i64 j/\i<=j/\j<=l.length/\Below w.heap.size w wr/\Hid (∀q,(hq:q<l.length)->q<i->kl l[q].key key=true)/\Hid (∀q,(hq:q<l.length)->j<=q->kl l[q].key key=false)) (λvi vj _=>(intOf vj).toNat-(intOf vi).toNat)
 case atStart=>exact⟨0,l.length,rfl,rfl,Nat.zero_le _,Nat.le_refl _,Below.refl _ _,hid λ_ _ h=>absurd h (by omega),hid λ_ h h'=>absurd h (by omega)⟩
 case round =>
  obtain⟨i,j,rfl,rfl,hij,hjn,hbw,h1,h2⟩:=hrel;have hbs:=hbw.size;by_cases hlt:i<j
  · obtain⟨h,hh⟩:∃h,h=(i+j)/2:=⟨_,rfl⟩
    have hhl:h<l.length:=by omega
    have hih:i<=h:=by omega
    have hhj:h<j:=by omega
    have e1:IntKind.u64.wrap ((i:Int)+(j:Int))=(i:Int)+j:=by rw[IntKind.wrap_u64];omega
    have e2:((i:Int)+(j:Int))/2=(h:Int):=by omega
    clear hh;obtain⟨b,off,rfl,hB,c0,c1,c2,c3,c4⟩:=(HA.out.below hbw).link hhl;cases hk:kl l[h].key key with
    |true =>
     have e3:cmpB l[h].key key= -1:=by rw[qhw,if_pos hk]
     go_wp2_with(go_at_call 349;refine(qgv l[h] key _).mono ?_;rintro e w'⟨rfl,hb4⟩;rw[e3]);go_roundw
     case rel =>
      refine⟨h+1,j,by go_num,rfl,by omega,hjn,hbw.trans (hb4.mono hbs),hid λq hq hlt=>?_,h2⟩;rcases(by omega:q<h\/q=h)with hqh|rfl
      · exact qeh (qry HL.out hhl hqh) hk
      · exact hk
     case measure=>simp[intOf];omega
    |false =>
     have e3:0<=cmpB l[h].key key:=by rw[qhw,hk];simp only[Bool.false_eq_true,if_false];split <;> omega
     go_wp2_with(go_at_call 349;refine(qgv l[h] key _).mono ?_;rintro e w'⟨rfl,hb4⟩);go_roundw
     case rel =>
      refine⟨i,h,rfl,by go_num,hih,by omega,hbw.trans (hb4.mono hbs),h1,hid λq hq hlt=>?_⟩;rcases(by omega:h<q\/q=h)with hqh|rfl
      · cases e:kl l[q].key key with
        |false=>rfl
        |true=>have:=qeh (qry HL.out hq hqh) e;rw[hk]at this;cases this
      · exact hk
     case measure=>simp[intOf];omega
  · obtain rfl:i=j:=by omega
    have hp:posL l key=i:=qyr h1.out h2.out hjn;have hh:=qzc HL.out hp;have HP:=hid hp;by_cases hin:i<l.length
    · obtain⟨b,off,rfl,hB,c0,c1,c2,c3,c4⟩:=(HA.out.below hbw).link hin
      by_cases hek:l[i].key=key
      · have e3:cmpB l[i].key key=0:=by rw[qhw,hek,qdh];rfl
        have hh':hasL l key=true:=by rw[hh];exact decide_eq_true ⟨hin,hek⟩
        have HH:=hid hh';clear hh hek hp hh';go_wp2_with(go_at_call 349;refine(qgv l[i] key _).mono ?_;rintro e w'⟨rfl,hb4⟩;rw[e3]);refine bodyPost_ret (v:=.tuple #[.int .i64 (i:Nat),.bool true]) (by simp[results,results348,go_sem]) rfl ?_;exact⟨by rw[HP.out,HH.out],hbw.trans (hb4.mono hbs)⟩
      · have e3:(cmpB l[i].key key==0)=false:=by
         rw[qhw];rcases qsq l[i].key key with h|h|h
         · simp[h]
         · exact absurd h hek
         · simp[h,qei h]
        have hh':hasL l key=false:=by rw[hh];exact decide_eq_false λ⟨_,h⟩=>hek h
        have HH:=hid hh';clear hh hek hp hh';go_wp2_with(go_at_call 349;refine(qgv l[i] key _).mono ?_;rintro e w'⟨rfl,hb4⟩);refine bodyPost_ret (v:=.tuple #[.int .i64 (i:Nat),.bool false]) (by simp[results,results348,go_sem]) rfl ?_;exact⟨by rw[HP.out,HH.out],hbw.trans (hb4.mono hbs)⟩
    · have hh':hasL l key=false:=by rw[hh];exact decide_eq_false λ⟨h,_⟩=>hin h
      have HH:=hid hh';clear hh hp hh';go_wp2;refine bodyPost_ret (v:=.tuple #[.int .i64 (i:Nat),.bool false]) (by simp[results,results348,go_sem]) rfl ?_;exact⟨by rw[HP.out,HH.out],hbw⟩
theorem qli(l:List qa3)(hl:Rise l)(A:Option Addr)(c:Nat)(key:ByteArray)(w:World)(hA:Arr qa3.enc 5 w w.heap.size A l)(hc:l.length<=c)(hm:c<=9223372036854775807)(hb:l.length<=100000):
 Calls prog 312 #[.slice A l.length c,.string key] w λe w'=>e=.returned (.tuple #[.int .i64 (posL l key:Nat),.bool (hasL l key)])/\Below w.heap.size w w':=by
 have HA:=hid hA;clear hA;go_enter func312,ntmps312;go_wp2_with(go_at_call 348;refine(qq1 l hl _ c key _ HA.out hc hm hb).mono ?_;rintro e w'⟨rfl,hb4⟩);refine bodyPost_ret (v:=.tuple #[.int .i64 (posL l key:Nat),.bool (hasL l key)]) (by simp[results,results312,go_sem]) rfl ?_;exact⟨rfl,hb4⟩
end
section
open Go.RowKit
def qzz(S:List qan)(line:Int)(w:World)(e:Ending)(w':World):Prop:=
 Below w.heap.size w w'/\∃(c:Int) (ok:Bool),e=.returned (.tuple #[.int .i64 c,.bool ok]) /\
  (ok=true->∃(i k:Nat) (hi:i<S.length),c=S[i].cls/\(∃hk:k<S[i].taken.length,S[i].taken[k]=true)/\∃hs:k<(qb1 i S[i].cls).length,line=((qb1 i S[i].cls)[k]:Int)) /\
  (ok=false->qxj S line)
theorem qAb(w:World)(lo p sc:Nat)(S:List qan)(h:qb8 w lo p sc S)(line:Int):Calls prog 340 #[.pointer (some ⟨p,0,none⟩),.int .i64 line] w (qzz S line w):=by
 have H:=hid h;have TA:=hid (qya w lo p sc S h line);clear h;go_enter func340,ntmps340;go_wp2_with fail;refine TA.out.mono ?_;rintro e w1⟨b1,pv,kk,ok,rfl,hok,hno⟩;have HB:=hid b1;have HOK:=hid hok;have HNO:=hid hno;clear hok hno;cases ok with
 |false =>
  go_wp2_with fail;go_ret2;exact⟨HB.out,_,false,rfl,(λh=>by cases h),λ_=>(by first|exact HNO.out rfl|exact HNO.out trivial|exact HNO.out)⟩
 |true =>
  obtain⟨i,k,hi,rfl,rfl,hk8,hkt,hks⟩:=HOK.out rfl;have hs:=H.out.slab hi;have c0:=(HB.out.cell (p:=⟨sc,i*10,none⟩) hs.lt).trans hs.cls;have hl:=Nat.lt_of_lt_of_le hs.lt HB.out.size;have HF:=hid (And.intro hkt hks);clear hs hkt hks;go_wp2_with fail;go_ret2;exact⟨HB.out,_,true,rfl,(λ_=>⟨i,k,hi,rfl,HF.out.1,HF.out.2⟩),λh=>by cases h⟩
end
section
open Go.RowKit
def qan.gave(x:qan)(k:Nat):qan:={cls:=if wrap64 (x.n-1)=0 then -1 else x.cls,taken:=x.taken.set k false,n:=wrap64 (x.n-1),ht:=by rw[List.length_set];exact x.ht}
def qup(lo p sc:Nat)(S:List qan)(w:World)(e:Ending)(w':World):Prop:=
 ∃(code:Int) (S':List qan),e=.returned (.int .i64 code)/\(S'=S\/∃(i k:Nat) (hi:i<S.length),S'=S.set i (S[i].gave k)/\∃hk:k<S[i].taken.length,S[i].taken[k]=true) /\
  qb8 w' lo p sc S'/\Below lo w w'/\∀b,b<w.heap.size->b≠sc->w'.heap[b]? =w.heap[b]?
theorem qb8.below{w w':World}{lo p sc:Nat}{S:List qan}(h:qb8 w lo p sc S)(hb:Below w.heap.size w w'):qb8 w' lo p sc S:=
 ⟨(hb.block p (qa0 h.box)).trans h.box,h.rows.below hb,h.lo,h.len⟩
theorem qwj(w:World)(lo p sc:Nat)(S:List qan)(h:qb8 w lo p sc S)(line:Int):Calls prog 270 #[.pointer (some ⟨p,0,none⟩),.int .i64 line] w (qup lo p sc S w):=by
 have H:=hid h;have TA:=hid (qya w lo p sc S h line);have hlw:lo<=w.heap.size:=by have:=qa0 h.box;have:=h.lo;omega
 clear h;go_enter func270,ntmps270;go_wp2_with fail;refine TA.out.mono ?_;rintro e w1⟨b1,pv,kk,ok,rfl,hok, -⟩;have HB:=hid b1;have HP1:=hid (H.out.below b1);have HOK:=hid hok;clear hok b1;cases ok with
 |false =>
  go_wp2_with fail;go_ret;exact⟨1,S,rfl,.inl rfl,HP1.out,HB.out.mono hlw,λb hb _=>HB.out.block b hb⟩
 |true =>
  obtain⟨i,k,hi,rfl,rfl,hk8,hkt, -⟩:=HOK.out rfl;have hs:=HP1.out.slab hi;have c0:=hs.cls;have ck:=hs.taken k hk8;have c9:=hs.n;have f0:=hs.fr (i*10);have fk:=hs.fr (i*10+1+k);have f9:=hs.fr (i*10+9);have hlt:=hs.lt;have hk8i:(k:Int)<8:=by omega
  have HKT:=hid hkt;have hne1:¬i*10=i*10+1+k:=by omega
  have hne2:¬i*10+1+k=i*10+9:=by omega
  have hkl:k<S[i].taken.length:=by rw[S[i].ht];exact hk8
  have h1:=HP1.out.rows.setPart qan.enc_len hi {S[i]with taken:=S[i].taken.set k false,ht:=by rw[List.length_set];exact S[i].ht} (1+k) [.bool false] (by simp;omega) (qan.taken_same _ k false) (qeu (by rw[qan.e_taken _ hk8];simp));have h2:=h1.setPart qan.enc_len (i:=i) (by rw[List.length_set];exact hi) {S[i]with taken:=S[i].taken.set k false,n:=wrap64 (S[i].n-1),ht:=by rw[List.length_set];exact S[i].ht} 9 [.int .i64 (wrap64 (S[i].n-1))] (by simp) (λj hj=>by rw[List.getElem_set_self];exact qan.n_same {S[i]with taken:=S[i].taken.set k false,ht:=by rw[List.length_set];exact S[i].ht} (wrap64 (S[i].n-1)) j hj) (qeu (qan.e_n _));have hlo:=HP1.out.lo;by_cases hz:wrap64 (S[i].n-1)=0
  · have h3:=h2.setPart qan.enc_len (i:=i) (by rw[List.length_set,List.length_set];exact hi) (S[i].gave k) 0 [.int .i64 (-1)] (by simp) (λj hj=>by rw[List.getElem_set_self];exact(by unfold qan.gave;simp only[if_pos hz];exact qan.cls_same {S[i]with taken:=S[i].taken.set k false,n:=wrap64 (S[i].n-1),ht:=by rw[List.length_set];exact S[i].ht} (-1) j hj)) (qeu (by unfold qan.gave;simp only[if_pos hz];rfl))
    rw[List.set_set,List.set_set,Nat.zero_add,Nat.add_zero,<-Nat.add_assoc]at h3;have HR:=hid (show Own qan.enc 223 10 (((w1.setCell ⟨sc,i*10+1+k,none⟩ (.bool false)).setCell ⟨sc,i*10+9,none⟩ (.int .i64 (wrap64 (S[i].n-1)))).setCell ⟨sc,i*10,none⟩ (.int .i64 (-1))) lo (some ⟨sc,0,none⟩) S.length (S.set i (S[i].gave k))from h3);have HZ:=hid hz;have hze:(wrap64 (S[i].n-1)==0)=true:=by rw[beq_iff_eq];exact hz
    have hD:qb8 (((w1.setCell ⟨sc,i*10+1+k,none⟩ (.bool false)).setCell ⟨sc,i*10+9,none⟩ (.int .i64 (wrap64 (S[i].n-1)))).setCell ⟨sc,i*10,none⟩ (.int .i64 (-1))) lo p sc (S.set i (S[i].gave k)):=
     ⟨by rw[List.length_set];exact(Below.heap_setCell _ _ _ _ hlo.2.2).trans ((Below.heap_setCell _ _ _ _ hlo.2.2).trans ((Below.heap_setCell _ _ _ _ hlo.2.2).trans HP1.out.box)),by rw[List.length_set];exact HR.out,hlo,by rw[List.length_set];exact HP1.out.len⟩
    have HD:=hid hD;have HBL:=hid ((((HB.out.mono hlw).setCell (p:=⟨sc,i*10+1+k,none⟩) hlo.2.1 (.bool false)).setCell (p:=⟨sc,i*10+9,none⟩) hlo.2.1 (.int .i64 (wrap64 (S[i].n-1)))).setCell (p:=⟨sc,i*10,none⟩) hlo.2.1 (.int .i64 (-1)));have HOT:=hid (λ(b:Nat) (hb:b<w.heap.size) (hbs:b≠sc)=>(Below.heap_setCell _ (⟨sc,i*10,none⟩:Addr) (.int .i64 (-1)) _ hbs).trans ((Below.heap_setCell _ (⟨sc,i*10+9,none⟩:Addr) (.int .i64 (wrap64 (S[i].n-1))) _ hbs).trans ((Below.heap_setCell w1 (⟨sc,i*10+1+k,none⟩:Addr) (.bool false) _ hbs).trans (HB.out.block b hb))));clear h1 h2 h3 hs hkt hz hD;go_wp2_with fail;go_ret;exact⟨0,_,rfl,.inr ⟨i,k,hi,rfl,HKT.out⟩,HD.out,HBL.out,HOT.out⟩
  · have hg:S[i].gave k= {S[i]with taken:=S[i].taken.set k false,n:=wrap64 (S[i].n-1),ht:=by rw[List.length_set];exact S[i].ht}:=by unfold qan.gave;simp only[if_neg hz]
    rw[List.set_set,Nat.zero_add,<-Nat.add_assoc,<-hg]at h2;have HR:=hid (show Own qan.enc 223 10 ((w1.setCell ⟨sc,i*10+1+k,none⟩ (.bool false)).setCell ⟨sc,i*10+9,none⟩ (.int .i64 (wrap64 (S[i].n-1)))) lo (some ⟨sc,0,none⟩) S.length (S.set i (S[i].gave k))from h2);have hze:(wrap64 (S[i].n-1)==0)=false:=by rw[beq_eq_false_iff_ne];exact hz
    have hD:qb8 ((w1.setCell ⟨sc,i*10+1+k,none⟩ (.bool false)).setCell ⟨sc,i*10+9,none⟩ (.int .i64 (wrap64 (S[i].n-1)))) lo p sc (S.set i (S[i].gave k)):=
     ⟨by rw[List.length_set];exact(Below.heap_setCell _ _ _ _ hlo.2.2).trans ((Below.heap_setCell _ _ _ _ hlo.2.2).trans HP1.out.box),by rw[List.length_set];exact HR.out,hlo,by rw[List.length_set];exact HP1.out.len⟩
    have HD:=hid hD;have HBL:=hid (((HB.out.mono hlw).setCell (p:=⟨sc,i*10+1+k,none⟩) hlo.2.1 (.bool false)).setCell (p:=⟨sc,i*10+9,none⟩) hlo.2.1 (.int .i64 (wrap64 (S[i].n-1))));have HOT:=hid (λ(b:Nat) (hb:b<w.heap.size) (hbs:b≠sc)=>(Below.heap_setCell _ (⟨sc,i*10+9,none⟩:Addr) (.int .i64 (wrap64 (S[i].n-1))) _ hbs).trans ((Below.heap_setCell w1 (⟨sc,i*10+1+k,none⟩:Addr) (.bool false) _ hbs).trans (HB.out.block b hb)));clear h1 h2 hs hkt hz hD hg;go_wp2_with fail;go_ret;exact⟨0,_,rfl,.inr ⟨i,k,hi,rfl,HKT.out⟩,HD.out,HBL.out,HOT.out⟩
end
section
open Go.RowKit
theorem Own.setOne{α:Type}{enc:α->List Value}{e:TypeId}{k:Nat}(hk:∀x,(enc x).length=k){w:World}{lo b off c:Nat}{l:List α}(h:Own enc e k w lo (some ⟨b,off,none⟩) c l){i:Nat}(hi:i<l.length)(x:α):Own enc e k (w.setCells b (off+i*k) (enc x)) lo (some ⟨b,off,none⟩) c (l.set i x):=by
 have:=h.setPart hk hi x 0 (enc x) (by rw[hk];omega) (λj hj=>by rw[hk]at hj;rw[List.getElem?_eq_none (by rw[hk];omega),List.getElem?_eq_none (by rw[hk];omega)]) (λj _=>by rw[Nat.zero_add]);simpa using this
theorem qjw(w:World)(lo p:Nat)(A:Option Addr)(c:Nat)(L:List qa3)(at' n:Nat)(x:qa3)(h:qbo w lo p A c L at' n)(hn:n<L.length)(hlow:lo<=w.heap.size)(hL:L.length<=200001):Calls prog 329 #[.pointer (some ⟨p,0,none⟩),x.val] w (qff lo p A c (qd4 L at' n++[x]) w):=by
 have hp:=qa0 h.box;have hat:at'<L.length:=by rcases h.fit.2 with h0|h0 <;> omega
 have HXV:=hid (show x.val=.agg #[.string x.key,.int .u64 (x.id:Int),.int .u64 (x.ver:Int),.int .i64 x.line,.int .i64 x.cls]from rfl);have hm:(at'+n)%L.length<L.length:=Nat.mod_lt _ (by omega);have e1:((n:Int)==(L.length:Int))=false:=by rw[beq_eq_false_iff_ne];omega
 have e3:Int.tmod ((at':Int)+(n:Int)) (L.length:Int)=(((at'+n)%L.length:Nat):Int):=by rw[show(at':Int)+(n:Int)=((at'+n:Nat):Int)by omega,Int.ofNat_tmod]
 have hmi:(((at'+n)%L.length:Nat):Int)<(L.length:Int):=by omega
 rw[HXV.out];obtain⟨b,off,rfl,hB, -⟩:=(h.rows.arr qa3.enc_len).link hat;go_enter func329,ntmps329;go_upto_region 1 with fail;generalize hw1:World.alloc w _=w1;have R1:w1.heap[w.heap.size]? =some (.cells x.enc.toArray 85 (0,0)):=by rw[<-hw1];exact(qa2 _ _ _).trans (if_pos rfl)
 have b1:Below w.heap.size w w1:=by rw[<-hw1];exact(Below.refl _ _).alloc (Nat.le_refl _) _
 have HB1:=hid b1;have H1:=hid (h.keep (b1.block p hp) (λb _ hlt=>b1.block b hlt));have hp1:=qa0 H1.out.box;have p0:=cell_of_row w1 p 0 _ _ _ H1.out.box;have p1:=cell_of_row w1 p 1 _ _ _ H1.out.box;have p2:=cell_of_row w1 p 2 _ _ _ H1.out.box;have r0:=cell_of_row w1 _ 0 _ _ _ R1;have r1:=cell_of_row w1 _ 1 _ _ _ R1;have r2:=cell_of_row w1 _ 2 _ _ _ R1;have r3:=cell_of_row w1 _ 3 _ _ _ R1;have r4:=cell_of_row w1 _ 4 _ _ _ R1;simp only[qa3.enc,List.getElem?_toArray,List.getElem?_cons_zero,List.getElem?_cons_succ]at r0 r1 r2 r3 r4;have hl1:=qa0 R1;have HN:=hid h;clear hw1 R1 b1 h;go_quiet (fail);go_upto_region 6 with fail;generalize hw2:w1.drewN nq=w2;have hh2:w2.heap=w1.heap:=by rw[<-hw2];rfl
 have H2:=hid (H1.out.keep (w':=w2) (by rw[hh2]) (λb _ _=>by rw[hh2]));have HB2:Hid (Below w.heap.size w w2):=hid (by rw[<-hw2];exact qa1 HB1.out _);have hc2:∀a,w2.cell? a=w1.cell? a:=λa=>by rw[<-hw2];rfl
 rw[<-hc2]at p0 p1 p2 r0 r1 r2 r3 r4;rw[show w1.heap.size=w2.heap.size by rw[hh2]]at hp1 hl1;clear hw2 hh2 hc2 HB1 H1;have hL0:¬(L.length:Int)=0:=by omega
 have hL2:¬L.length=0:=by omega
 have hL3:¬L=[]:=λh0=>by rw[h0]at hL2;exact hL2 rfl
 have hL1:((L.length:Int)==0)=false:=by rw[beq_eq_false_iff_ne];exact hL0
 have i1:IntKind.i64.wrap ((at':Int)+(n:Int))=(at':Int)+(n:Int):=Go.IntWalk.i64_in _ (by omega);have i2:IntKind.i64.wrap (((at'+n)%L.length:Nat):Int)=(((at'+n)%L.length:Nat):Int):=Go.IntWalk.i64_in _ (by omega);have hm0:(0:Int)<=(((at'+n)%L.length:Nat):Int):=by omega
 have RWS:=hid H2.out.rows;have hfz:=RWS.out.frozen rfl (by have:=RWS.out.len;omega);obtain⟨k,hk⟩:∃k,k=(at'+n)%L.length:=⟨_,rfl⟩;rw[<-hk]at e3 hmi i2 hm0 hm;have hcells:=RWS.out.arr qa3.enc_len;obtain⟨b',off',hA',hB',k0,k1,k2,k3,k4⟩:=hcells.link hm;cases hA'
 clear hcells;have z0:=hfz (off+k*5);have z1:=hfz (off+k*5+1);have z2:=hfz (off+k*5+2);have z3:=hfz (off+k*5+3);have z4:=hfz (off+k*5+4);have HK:=hid hk;clear hfz hk;go_still_tail 20,(by kernel_rfl);change wpList _ _ _ _ _ (World.drew w2);obtain⟨w3,hw3⟩:∃w3,w3=w2.drew:=⟨_,rfl⟩;rw[<-hw3];have hh3:w3.heap=w2.heap:=by rw[hw3];rfl
 have HB3:Hid (Below w.heap.size w w3):=hid (by rw[hw3];exact HB2.out.drew);have H3:=hid (H2.out.keep (w':=w3) (by rw[hh3]) (λb _ _=>by rw[hh3]));have hc3:∀a,w3.cell? a=w2.cell? a:=λa=>by rw[hw3];rfl
 have hf3:∀a,w3.frozen? a=w2.frozen? a:=λa=>by rw[hw3];rfl
 rw[<-hc3]at p0 p1 p2 k0 k1 k2 k3 k4;rw[<-hf3]at z0 z1 z2 z3 z4;rw[show w2.heap.size=w3.heap.size by rw[hh3]]at hp1 hB';have hc0:¬c=0:=by have:=RWS.out.len;omega
 have hpb:¬p=b:=λh0=>H3.out.rows.notBox H3.out.box (by decide) (by rw[qa8,if_neg hc0,h0];rfl)
 have hbp:¬b=p:=λh0=>hpb h0.symm
 have fp2:=frozen_of_row w3 p 2 _ _ H3.out.box;have in1:IntKind.i64.wrap ((n:Int)+1)=(n:Int)+1:=Go.IntWalk.i64_in _ (by omega);clear hw3 hh3 hc3 hf3 HB2 H2 r0 r1 r2 r3 r4 hl1 e3 i1 i2 e1 hL0 hL1 hL2 hL3 p0 p1;have HW5:Hid (Own qa3.enc 85 5 (w3.setCells b (off+k*5) x.enc) lo (some ⟨b,off,none⟩) c (L.set k x)):=hid (Own.setOne qa3.enc_len H3.out.rows hm x);have HX5:Hid ((w3.setCells b (off+k*5) x.enc).heap[p]? =_):=hid ((qaa b x.enc (off+k*5) w3 p hpb).trans H3.out.box);have HO5:Hid (∀j,j≠b->(w3.setCells b (off+k*5) x.enc).heap[j]? =w3.heap[j]?):=hid λj hj=>qaa b x.enc (off+k*5) w3 j hj
 have HS5:=hid (qam b x.enc (off+k*5) w3);go_wp2_with fail;have hlob:=H3.out.lo;refine bodyPost_ret (v:=.tuple #[]) (by simp[results,results329]) rfl ⟨rfl,⟨⟨some ⟨b,off,none⟩,c,⟨L.set k x,at',n+1,⟨?_,?_,hlob,?_,?_⟩,?_⟩,.inl ⟨rfl,rfl⟩⟩,?_,λj hj hjp hjr=>?_,λK hK _=>Ring.of_box (heap_setCell_same _ p 2 _ _ (.int .i64 ((n:Int)+1)) HX5.out) ((hK.same (HB3.out.block p hp)).len H3.out.box)⟩⟩
 · rw[List.length_set]
   exact heap_setCell_same _ p 2 _ _ (.int .i64 ((n:Int)+1)) HX5.out
 · exact HW5.out.keep λb' off' hA _ _=>by
    cases hA
    exact Below.heap_setCell _ _ _ _ hbp
 · rw[List.length_set]
   exact⟨by omega,.inr hat⟩
 · intro h0
   have:=congrArg List.length h0;rw[List.length_set]at this;simp at this;rw[this]at hn;simp at hn
 · rw[HK.out]
   exact(qq2 hn hat x).symm
 · have hlb:lo<=b:=by
    rcases H3.out.rows.lt with h0|⟨b',off',hA,hB,_⟩
    · exact absurd h0 hc0
    · cases hA;exact hB
   exact((qae hlb x.enc (off+k*5) w3 (HB3.out.mono hlow)).setCell (p:=⟨p,2,none⟩) hlob _)
 · have hjb:j≠b:=λh0=>hjr (by rw[qa8,if_neg hc0,h0];rfl)
   exact(Below.heap_setCell _ _ _ _ hjp).trans ((HO5.out j hjb).trans (HB3.out.block j hj))
end
section
open Go.RowKit
structure EffC where
 kind:Int
 key:ByteArray
 val:ByteArray
 id:Nat
 ver:Nat
 ep:Nat
 grp:Int
def EffC.enc(x:EffC):List Value:=[.int .i64 x.kind,.string x.key,.string x.val,.int .u64 (x.id:Int),.int .u64 (x.ver:Int),.int .u64 (x.ep:Int),.int .i64 x.grp]
theorem EffC.enc_len(x:EffC):x.enc.length=7:=rfl
theorem EffC.enc_one(x:EffC):∀u∈x.enc,u.oneCell'=true:=by
 intro u hu;simp only[EffC.enc,List.mem_cons,List.not_mem_nil,or_false]at hu;rcases hu with rfl|rfl|rfl|rfl|rfl|rfl|rfl <;> rfl
structure qag where
 vp:Nat
 dp:Nat
 dc:Nat
 pp:Nat
 sc:Nat
 rp:Nat
 rc:Nat
 cp:Nat
 oc:Nat
 bp:Nat
 tb:Nat
 mb:Nat->Nat
 ob:Nat
 lp:Nat
structure qa4 where
 D:List qab
 S:List qan
 rnow:Nat
 H:List Nat
 now:Nat
 dur:Nat
 clo:Nat
 owed:List Int
 noted:List Bool
 left:List Bool
 step:Value
 bag:List EntC
 T:Nat->List qa3
 O:List qa3
 Q:List qa3
 qn:Nat
 id:Nat
 ver:Nat
 E:List EffC
 eA:Option Addr
 ec:Nat
def qje(P:qag)(id ver:Nat)(eA:Option Addr)(en ec:Nat):List Value:=
 [.pointer (some ⟨P.vp,0,none⟩),.pointer (some ⟨P.pp,0,none⟩),.pointer (some ⟨P.rp,0,none⟩),.pointer (some ⟨P.cp,0,none⟩),.pointer (some ⟨P.bp,0,none⟩),.pointer (some ⟨P.tb,0,none⟩),.pointer (some ⟨P.ob,0,none⟩),.pointer (some ⟨P.lp,0,none⟩),.int .u64 (id:Int),.int .u64 (ver:Int),.slice eA en ec]
def qc8(g:Own8)(i:Nat)(A:Option Addr)(c:Nat):Prop:=∀b,qa8 A c=some b->g b=i
def CBox(g:Own8)(w:World)(a:Nat)(P:qag)(id ver:Nat)(eA:Option Addr)(en ec:Nat):Prop:=w.heap[a]? =some (.cells (qje P id ver eA en ec).toArray 127 (0,0))/\g a=1
def CEff(g:Own8)(w:World)(eA:Option Addr)(ec:Nat)(E:List EffC):Prop:=Own EffC.enc 70 7 w 0 eA ec E/\qc8 g 10 eA ec
def CDev(g:Own8)(w:World)(vp dp dc:Nat)(D:List qab):Prop:=w.cell? ⟨vp,0,none⟩=some (.pointer (some ⟨dp,0,none⟩))/\qbb w 0 dp dc D/\g vp=11/\g dp=2/\g dc=2
def qxx(g:Own8)(w:World)(pp sc:Nat)(S:List qan):Prop:=qb8 w 0 pp sc S/\g pp=3/\g sc=3
def CRd(g:Own8)(w:World)(rp rc now:Nat)(H:List Nat):Prop:=RdAt w 0 rp rc now H/\g rp=4/\g rc=4
def CClk(g:Own8)(w:World)(cp oc now dur clo:Nat)(owed:List Int)(noted left:List Bool)(step:Value):Prop:=qbi w 0 cp oc now dur clo owed noted left step/\g cp=5/\g oc=5
def CBag(g:Own8)(w:World)(bp:Nat)(l:List EntC):Prop:=∃A c,qfi w 0 bp A c l/\g bp=6/\qc8 g 6 A c
def CTab(g:Own8)(w:World)(tb:Nat)(mb:Nat->Nat)(T:Nat->List qa3):Prop:=qbk (λj=>g j=7) w tb mb T
def COrd(g:Own8)(w:World)(ob:Nat)(O:List qa3):Prop:=Ord (λj=>g j=8) w ob (atLv O)
def qxy(g:Own8)(w:World)(lp:Nat)(Q:List qa3)(qn:Nat):Prop:=∃A c,qmi w 0 lp A c Q/\g lp=9/\qc8 g 9 A c/\Ring w lp qn
structure qa6(g:Own8)(w:World)(a:Nat)(P:qag)(M:qa4):Prop where
 far:Far g w
 box:CBox g w a P M.id M.ver M.eA M.E.length M.ec
 eff:CEff g w M.eA M.ec M.E
 dev:CDev g w P.vp P.dp P.dc M.D
 pool:qxx g w P.pp P.sc M.S
 rd:CRd g w P.rp P.rc M.rnow M.H
 clk:CClk g w P.cp P.oc M.now M.dur M.clo M.owed M.noted M.left M.step
 bag:CBag g w P.bp M.bag
 tab:CTab g w P.tb P.mb M.T
 ord:COrd g w P.ob M.O
 line:qxy g w P.lp M.Q M.qn
structure Ext(g g':Own8)(w w':World):Prop where
 old:∀b,b<w.heap.size->g' b=g b
 only:Only (λj=>0<g j) w w'
theorem Ext.refl(g:Own8)(w:World):Ext g g w w:=⟨λ_ _=>rfl,Only.refl _ _⟩
theorem Ext.trans{g g1 g2:Own8}{w w1 w2:World}(h:Ext g g1 w w1)(k:Ext g1 g2 w1 w2):Ext g g2 w w2:=by
 have hs:=h.only.size;refine⟨λb hb=>(k.old b (by omega)).trans (h.old b hb),⟨k.only.os.trans h.only.os,k.only.tape.trans h.only.tape,k.only.output.trans h.only.output,Nat.le_trans hs k.only.size,λj hj hn=>?_⟩⟩;exact(k.only.block j (by omega) (by rw[h.old j hj];exact hn)).trans (h.only.block j hj hn)
theorem Ext.below{g:Own8}{w w':World}(h:Below w.heap.size w w'):Ext g g w w':=⟨λ_ _=>rfl,Only.of_below h⟩
theorem Ext.nobody{g g':Own8}{w w':World}(h:Ext g g' w w'){b:Nat}(hb:b<w.heap.size)(h0:g b=0):w'.heap[b]? =w.heap[b]? :=h.only.block b hb (by omega)
section
variable {g:Own8}{w w':World}{a:Nat}{P:qag}{M:qa4}
theorem qcg{α:Type}{enc:α->List Value}{e:TypeId}{n lo:Nat}{l:List α}{A:Option Addr}{c:Nat}(ho:Own enc e n w lo A c l):∀b,qa8 A c=some b->b<w.heap.size:=λb hb=>by
 rcases ho.lt with h0|⟨b',off,hA,_,hlt⟩
 · rw[qa8,if_pos h0]at hb;cases hb
 · rw[qa8]at hb
   split at hb
   · cases hb
   · rw[hA]at hb;cases hb;exact hlt
abbrev qcx(g:Own8)(i:Nat)(w w':World):Prop:=Only (λj=>g j=i\/w.heap.size<=j) w w'
theorem no_i{i b k:Nat}(hb:b<w.heap.size)(hk:g b=k)(hne:i≠k):¬(g b=i\/w.heap.size<=b):=by omega
section
variable {i:Nat}(ho:qcx g i w w')
include ho
theorem CBox.keep{id ver:Nat}{eA:Option Addr}{en ec:Nat}(h:CBox g w a P id ver eA en ec)(hi:i≠1):CBox (mark g w w' i) w' a P id ver eA en ec:=by
 have l1:=qa0 h.1;exact⟨(ho.block _ l1 (no_i l1 h.2 hi)).trans h.1,(qat l1).trans h.2⟩
omit ho in
theorem qc8.keep{k:Nat}{A:Option Addr}{c:Nat}(h:qc8 g k A c)(hl:∀b,qa8 A c=some b->b<w.heap.size):qc8 (mark g w w' i) k A c:=λb hb=>(qat (hl b hb)).trans (h b hb)
theorem CEff.keep{eA:Option Addr}{ec:Nat}{E:List EffC}(h:CEff g w eA ec E)(hi:i≠10):CEff (mark g w w' i) w' eA ec E:=
 ⟨ho.rows (λb hb=>no_i (qcg h.1 b hb) (h.2 b hb) hi) h.1,qc8.keep h.2 (qcg h.1)⟩
theorem CDev.keep{vp dp dc:Nat}{D:List qab}(h:CDev g w vp dp dc D)(hi:i≠2)(hi':i≠11):CDev (mark g w w' i) w' vp dp dc D:=by
 obtain⟨h1,h2,h3,h4,h5⟩:=h;have l0:vp<w.heap.size:=qnz h1;have l1:dp<w.heap.size:=by obtain⟨⟨_,_,_,_,_,hb⟩,_,_,_⟩:=h2;exact qa0 hb
 have l2:dc<w.heap.size:=(h2.line (i:=0) (by have:=h2.len;omega)).lt;exact⟨(qaj (p:=⟨vp,0,none⟩) (ho.block _ l0 (no_i l0 h3 hi'))).trans h1,h2.only ho (no_i l1 h4 hi) (no_i l2 h5 hi),(qat l0).trans h3,(qat l1).trans h4,(qat l2).trans h5⟩
theorem qxx.keep{pp sc:Nat}{S:List qan}(h:qxx g w pp sc S)(hi:i≠3):qxx (mark g w w' i) w' pp sc S:=by
 obtain⟨h1,h2,h3⟩:=h;have l1:=qa0 h1.box;have l2:sc<w.heap.size:=(h1.slab (i:=0) (by have:=h1.len;omega)).lt;exact⟨h1.only ho (no_i l1 h2 hi) (no_i l2 h3 hi),(qat l1).trans h2,(qat l2).trans h3⟩
theorem CRd.keep{rp rc now:Nat}{H:List Nat}(h:CRd g w rp rc now H)(hi:i≠4):CRd (mark g w w' i) w' rp rc now H:=by
 obtain⟨h1,h2,h3⟩:=h;have l1:=qa0 h1.box;have l2:=qa0 h1.rows;exact⟨h1.only ho (no_i l1 h2 hi) (no_i l2 h3 hi),(qat l1).trans h2,(qat l2).trans h3⟩
theorem CClk.keep{cp oc now dur clo:Nat}{owed:List Int}{noted left:List Bool}{step:Value}(h:CClk g w cp oc now dur clo owed noted left step)(hi:i≠5):CClk (mark g w w' i) w' cp oc now dur clo owed noted left step:=by
 obtain⟨h1,h2,h3⟩:=h;have l1:=qa0 h1.box;have l2:=qa0 h1.rows;exact⟨h1.only ho (no_i l1 h2 hi) (no_i l2 h3 hi),(qat l1).trans h2,(qat l2).trans h3⟩
theorem CBag.keep{bp:Nat}{l:List EntC}(h:CBag g w bp l)(hi:i≠6):CBag (mark g w w' i) w' bp l:=by
 obtain⟨A,c,h1,h2,h3⟩:=h;have l1:=qa0 h1.box;exact⟨A,c,h1.only ho (no_i l1 h2 hi) (λb hb=>no_i (qcg h1.rows b hb) (h3 b hb) hi),(qat l1).trans h2,qc8.keep h3 (qcg h1.rows)⟩
theorem CTab.keep{tb:Nat}{mb:Nat->Nat}{T:Nat->List qa3}(h:CTab g w tb mb T)(hi:i≠7):CTab (mark g w w' i) w' tb mb T:=by
 have l1:=h.lt;have h1:=h.own.1;have q:qbk (λj=>g j=7) w' tb mb T:=h.same (ho.block _ l1 (no_i l1 h1 hi)) λk hk=>ho.block _ (h.map k hk).lt (no_i (h.map k hk).lt (h.own.2 k hk) hi)
 exact⟨q.box,q.map,q.inj,q.bkt,(qat l1).trans h1,λk hk=>(qat (h.map k hk).lt).trans (h.own.2 k hk)⟩
theorem COrd.keep{ob:Nat}{O:List qa3}(h:COrd g w ob O)(hi:i≠8):COrd (mark g w w' i) w' ob O:=by
 have q:Ord (λj=>g j=8/\j<w.heap.size) w' ob (atLv O):=(Ord.trim h).only ho λj hj=>no_i hj.2 hj.1 hi
 exact q.mono λj hj=>(qat hj.2).trans hj.1
theorem qxy.keep{lp:Nat}{Q:List qa3}{qn:Nat}(h:qxy g w lp Q qn)(hi:i≠9):qxy (mark g w w' i) w' lp Q qn:=by
 obtain⟨A,c,⟨L,at',n,h1,hq⟩,h2,h3,h4⟩:=h;have l1:=qa0 h1.box;exact⟨A,c,⟨L,at',n,h1.only ho (no_i l1 h2 hi) (λb hb=>no_i (qcg h1.rows b hb) (h3 b hb) hi),hq⟩,(qat l1).trans h2,qc8.keep h3 (qcg h1.rows),h4.same (ho.block _ l1 (no_i l1 h2 hi))⟩
end
theorem qcx.ext{i:Nat}(ho:qcx g i w w')(hi:0<i):Ext g (mark g w w' i) w w':=
 ⟨λ_ hb=>qat hb,⟨ho.os,ho.tape,ho.output,ho.size,λj hj hn=>ho.block j hj (by omega)⟩⟩
theorem qcx.of2{i p q:Nat}(hs:Below 0 w w')(hk:∀b,b<w.heap.size->b≠p->b≠q->w'.heap[b]? =w.heap[b]?)(hp:g p=i)(hq:g q=i):qcx g i w w':=
 ⟨hs.os,hs.tape,hs.output,hs.size,λj hj hn=>hk j hj (λe=>hn (.inl (e ▸ hp))) (λe=>hn (.inl (e ▸ hq)))⟩
theorem qlj(hf:Far g w):mark g w w' 0=g:=by
 funext b;unfold mark;split
 · rename_i h
   exact(hf b h.1).symm
 · rfl
theorem qa6.below(h:qa6 g w a P M)(hb:Below w.heap.size w w'):qa6 g w' a P M:=by
 have ho:qcx g 0 w w':=Only.of_below hb;have e:=qlj (w':=w') h.far;refine⟨h.far.mono hb.size,?_,?_,?_,?_,?_,?_,?_,?_,?_,?_⟩
 · rw[<-e];exact h.box.keep ho (by decide)
 · rw[<-e];exact h.eff.keep ho (by decide)
 · rw[<-e];exact h.dev.keep ho (by decide) (by decide)
 · rw[<-e];exact h.pool.keep ho (by decide)
 · rw[<-e];exact h.rd.keep ho (by decide)
 · rw[<-e];exact h.clk.keep ho (by decide)
 · rw[<-e];exact h.bag.keep ho (by decide)
 · rw[<-e];exact h.tab.keep ho (by decide)
 · rw[<-e];exact h.ord.keep ho (by decide)
 · rw[<-e];exact h.line.keep ho (by decide)
theorem qa6.nobody(h:qa6 g w a P M)(ho:qcx g 0 w w'):qa6 g w' a P M:=by
 have e:=qlj (w':=w') h.far;refine⟨h.far.mono ho.size,?_,?_,?_,?_,?_,?_,?_,?_,?_,?_⟩
 · rw[<-e];exact h.box.keep ho (by decide)
 · rw[<-e];exact h.eff.keep ho (by decide)
 · rw[<-e];exact h.dev.keep ho (by decide) (by decide)
 · rw[<-e];exact h.pool.keep ho (by decide)
 · rw[<-e];exact h.rd.keep ho (by decide)
 · rw[<-e];exact h.clk.keep ho (by decide)
 · rw[<-e];exact h.bag.keep ho (by decide)
 · rw[<-e];exact h.tab.keep ho (by decide)
 · rw[<-e];exact h.ord.keep ho (by decide)
 · rw[<-e];exact h.line.keep ho (by decide)
def ATo(g:Own8)(w w':World)(a:Nat)(P:qag)(M':qa4):Prop:=∃g',qa6 g' w' a P M'/\Ext g g' w w'
theorem ATo.refl(h:qa6 g w a P M):ATo g w w a P M:=⟨g,h,Ext.refl _ _⟩
theorem ATo.trans{g1:Own8}{w1:World}{M':qa4}(h:Ext g g1 w w1)(k:ATo g1 w1 w' a P M'):ATo g w w' a P M':=by
 obtain⟨g2,h1,h2⟩:=k;exact⟨g2,h1,h.trans h2⟩
theorem qa6.setDev(h:qa6 g w a P M)(ho:qcx g 2 w w'){D:List qab}(hd:qbb w' 0 P.dp P.dc D):ATo g w w' a P {M with D:=D}:=by
 obtain⟨q1,q2,q3,q4,q5⟩:=h.dev;have l0:P.vp<w.heap.size:=qnz q1;have l1:P.dp<w.heap.size:=by obtain⟨⟨_,_,_,_,_,hb⟩,_,_,_⟩:=q2;exact qa0 hb
 have l2:P.dc<w.heap.size:=(q2.line (i:=0) (by have:=q2.len;omega)).lt;exact⟨_,⟨h.far.mark ho.size 2,h.box.keep ho (by decide),h.eff.keep ho (by decide),⟨(qaj (p:=⟨P.vp,0,none⟩) (ho.block _ l0 (no_i l0 q3 (by decide)))).trans q1,hd,(qat l0).trans q3,(qat l1).trans q4,(qat l2).trans q5⟩,h.pool.keep ho (by decide),h.rd.keep ho (by decide),h.clk.keep ho (by decide),h.bag.keep ho (by decide),h.tab.keep ho (by decide),h.ord.keep ho (by decide),h.line.keep ho (by decide)⟩,ho.ext (by decide)⟩
theorem qa6.setPool(h:qa6 g w a P M)(ho:qcx g 3 w w'){S:List qan}(hd:qb8 w' 0 P.pp P.sc S):ATo g w w' a P {M with S:=S}:=by
 obtain⟨q1,q2,q3⟩:=h.pool;have l1:=qa0 q1.box;have l2:P.sc<w.heap.size:=(q1.slab (i:=0) (by have:=q1.len;omega)).lt;exact⟨_,⟨h.far.mark ho.size 3,h.box.keep ho (by decide),h.eff.keep ho (by decide),h.dev.keep ho (by decide) (by decide),⟨hd,(qat l1).trans q2,(qat l2).trans q3⟩,h.rd.keep ho (by decide),h.clk.keep ho (by decide),h.bag.keep ho (by decide),h.tab.keep ho (by decide),h.ord.keep ho (by decide),h.line.keep ho (by decide)⟩,ho.ext (by decide)⟩
theorem qa6.setRd(h:qa6 g w a P M)(ho:qcx g 4 w w'){now:Nat}{H:List Nat}(hd:RdAt w' 0 P.rp P.rc now H):ATo g w w' a P {M with rnow:=now,H:=H}:=by
 obtain⟨q1,q2,q3⟩:=h.rd;have l1:=qa0 q1.box;have l2:=qa0 q1.rows;exact⟨_,⟨h.far.mark ho.size 4,h.box.keep ho (by decide),h.eff.keep ho (by decide),h.dev.keep ho (by decide) (by decide),h.pool.keep ho (by decide),⟨hd,(qat l1).trans q2,(qat l2).trans q3⟩,h.clk.keep ho (by decide),h.bag.keep ho (by decide),h.tab.keep ho (by decide),h.ord.keep ho (by decide),h.line.keep ho (by decide)⟩,ho.ext (by decide)⟩
theorem qa6.setClk(h:qa6 g w a P M)(ho:qcx g 5 w w'){now dur clo:Nat}{owed:List Int}{noted left:List Bool}{step:Value}(hd:qbi w' 0 P.cp P.oc now dur clo owed noted left step):ATo g w w' a P {M with now:=now,dur:=dur,clo:=clo,owed:=owed,noted:=noted,left:=left,step:=step}:=by
 obtain⟨q1,q2,q3⟩:=h.clk;have l1:=qa0 q1.box;have l2:=qa0 q1.rows;exact⟨_,⟨h.far.mark ho.size 5,h.box.keep ho (by decide),h.eff.keep ho (by decide),h.dev.keep ho (by decide) (by decide),h.pool.keep ho (by decide),h.rd.keep ho (by decide),⟨hd,(qat l1).trans q2,(qat l2).trans q3⟩,h.bag.keep ho (by decide),h.tab.keep ho (by decide),h.ord.keep ho (by decide),h.line.keep ho (by decide)⟩,ho.ext (by decide)⟩
theorem qa6.setBag(h:qa6 g w a P M)(ho:qcx g 6 w w'){l:List EntC}{A:Option Addr}{c:Nat}(hd:qfi w' 0 P.bp A c l)(hr:qc8 (mark g w w' 6) 6 A c):ATo g w w' a P {M with bag:=l}:=by
 obtain⟨A0,c0,q1,q2,q3⟩:=h.bag;have l1:=qa0 q1.box;exact⟨_,⟨h.far.mark ho.size 6,h.box.keep ho (by decide),h.eff.keep ho (by decide),h.dev.keep ho (by decide) (by decide),h.pool.keep ho (by decide),h.rd.keep ho (by decide),h.clk.keep ho (by decide),⟨A,c,hd,(qat l1).trans q2,hr⟩,h.tab.keep ho (by decide),h.ord.keep ho (by decide),h.line.keep ho (by decide)⟩,ho.ext (by decide)⟩
theorem qa6.setTab(h:qa6 g w a P M)(ho:qcx g 7 w w'){T:Nat->List qa3}(hd:qbk (λj=>g j=7/\j<w.heap.size) w' P.tb P.mb T):ATo g w w' a P {M with T:=T}:=
 ⟨_,⟨h.far.mark ho.size 7,h.box.keep ho (by decide),h.eff.keep ho (by decide),h.dev.keep ho (by decide) (by decide),h.pool.keep ho (by decide),h.rd.keep ho (by decide),h.clk.keep ho (by decide),h.bag.keep ho (by decide),hd.mono λj hj=>(qat hj.2).trans hj.1,h.ord.keep ho (by decide),h.line.keep ho (by decide)⟩,ho.ext (by decide)⟩
theorem qa6.setOrd(h:qa6 g w a P M)(ho:qcx g 8 w w'){O:List qa3}(hd:Ord (λj=>g j=8\/w.heap.size<=j) w' P.ob (atLv O)):ATo g w w' a P {M with O:=O}:=by
 refine⟨_,⟨h.far.mark ho.size 8,h.box.keep ho (by decide),h.eff.keep ho (by decide),h.dev.keep ho (by decide) (by decide),h.pool.keep ho (by decide),h.rd.keep ho (by decide),h.clk.keep ho (by decide),h.bag.keep ho (by decide),h.tab.keep ho (by decide),?_,h.line.keep ho (by decide)⟩,ho.ext (by decide)⟩;refine(Ord.trim hd).mono λj hj=>?_
 by_cases hlt:j<w.heap.size
 · rcases hj.1 with h1|h1
   · exact(qat hlt).trans h1
   · omega
 · exact qos (by omega) hj.2
theorem qa6.setLine(h:qa6 g w a P M)(ho:qcx g 9 w w'){Q:List qa3}{A:Option Addr}{c:Nat}(hd:qmi w' 0 P.lp A c Q)(hr:qc8 (mark g w w' 9) 9 A c){qn:Nat}(hg:Ring w' P.lp qn):ATo g w w' a P {M with Q:=Q,qn:=qn}:=by
 obtain⟨A0,c0,⟨L,at',n,q1,_⟩,q2,q3,q4⟩:=h.line;have l1:=qa0 q1.box;exact⟨_,⟨h.far.mark ho.size 9,h.box.keep ho (by decide),h.eff.keep ho (by decide),h.dev.keep ho (by decide) (by decide),h.pool.keep ho (by decide),h.rd.keep ho (by decide),h.clk.keep ho (by decide),h.bag.keep ho (by decide),h.tab.keep ho (by decide),h.ord.keep ho (by decide),⟨A,c,hd,(qat l1).trans q2,hr,hg⟩⟩,ho.ext (by decide)⟩
theorem qa6.setNum(h:qa6 g w a P M)(id ver:Nat)(hw:w'.heap[a]? =some (.cells (qje P id ver M.eA M.E.length M.ec).toArray 127 (0,0)))(ho:qcx g 1 w w'):ATo g w w' a P {M with id:=id,ver:=ver}:=
 ⟨_,⟨h.far.mark ho.size 1,⟨hw,(qat (qa0 h.box.1)).trans h.box.2⟩,h.eff.keep ho (by decide),h.dev.keep ho (by decide) (by decide),h.pool.keep ho (by decide),h.rd.keep ho (by decide),h.clk.keep ho (by decide),h.bag.keep ho (by decide),h.tab.keep ho (by decide),h.ord.keep ho (by decide),h.line.keep ho (by decide)⟩,ho.ext (by decide)⟩
end
end
section
open Go.RowKit
section
variable {g:Own8}{w:World}{a:Nat}{P:qag}{M:qa4}
theorem qa6.cells(h:qa6 g w a P M):w.cell? ⟨a,0,none⟩=some (.pointer (some ⟨P.vp,0,none⟩))/\w.cell? ⟨a,1,none⟩=some (.pointer (some ⟨P.pp,0,none⟩))/\w.cell? ⟨a,2,none⟩=some (.pointer (some ⟨P.rp,0,none⟩))/\w.cell? ⟨a,3,none⟩=some (.pointer (some ⟨P.cp,0,none⟩))/\w.cell? ⟨a,4,none⟩=some (.pointer (some ⟨P.bp,0,none⟩))/\w.cell? ⟨a,5,none⟩=some (.pointer (some ⟨P.tb,0,none⟩))/\w.cell? ⟨a,6,none⟩=some (.pointer (some ⟨P.ob,0,none⟩))/\w.cell? ⟨a,7,none⟩=some (.pointer (some ⟨P.lp,0,none⟩))/\w.cell? ⟨a,8,none⟩=some (.int .u64 (M.id:Int))/\w.cell? ⟨a,9,none⟩=some (.int .u64 (M.ver:Int))/\w.cell? ⟨a,10,none⟩=some (.slice M.eA M.E.length M.ec):=
 ⟨cell_of_row w a 0 _ _ _ h.box.1,cell_of_row w a 1 _ _ _ h.box.1,cell_of_row w a 2 _ _ _ h.box.1,cell_of_row w a 3 _ _ _ h.box.1,cell_of_row w a 4 _ _ _ h.box.1,cell_of_row w a 5 _ _ _ h.box.1,cell_of_row w a 6 _ _ _ h.box.1,cell_of_row w a 7 _ _ _ h.box.1,cell_of_row w a 8 _ _ _ h.box.1,cell_of_row w a 9 _ _ _ h.box.1,cell_of_row w a 10 _ _ _ h.box.1⟩
theorem qek(h:qa6 g w a P M):Calls prog 32 #[.pointer (some ⟨a,0,none⟩)] w λe w'=>e=.returned (.pointer (some ⟨P.dp,0,none⟩))/\w'=w:=by
 have q0:=h.cells.1;have q1:=h.dev.1;clear h;go_enter func32,ntmps32;go_wp2;go_ret;exact⟨rfl,rfl⟩
theorem qi1(h:qa6 g w a P M):Calls prog 300 #[.pointer (some ⟨a,0,none⟩)] w λe w'=>e=.returned (.pointer (some ⟨P.pp,0,none⟩))/\w'=w:=by
 have q0:=h.cells.2.1;clear h;go_enter func300,ntmps300;go_wp2;go_ret;exact⟨rfl,rfl⟩
theorem qeb(h:qa6 g w a P M):Calls prog 208 #[.pointer (some ⟨a,0,none⟩)] w λe w'=>e=.returned (.pointer (some ⟨P.rp,0,none⟩))/\w'=w:=by
 have q0:=h.cells.2.2.1;clear h;go_enter func208,ntmps208;go_wp2;go_ret;exact⟨rfl,rfl⟩
theorem qcr(h:qa6 g w a P M):Calls prog 40 #[.pointer (some ⟨a,0,none⟩)] w λe w'=>e=.returned (.pointer (some ⟨P.cp,0,none⟩))/\w'=w:=by
 have q0:=h.cells.2.2.2.1;clear h;go_enter func40,ntmps40;go_wp2;go_ret;exact⟨rfl,rfl⟩
theorem qEt(h:qa6 g w a P M):Calls prog 266 #[.pointer (some ⟨a,0,none⟩)] w λe w'=>e=.returned (.pointer (some ⟨P.bp,0,none⟩))/\w'=w:=by
 have q0:=h.cells.2.2.2.2.1;clear h;go_enter func266,ntmps266;go_wp2;go_ret;exact⟨rfl,rfl⟩
theorem qga(h:qa6 g w a P M):Calls prog 59 #[.pointer (some ⟨a,0,none⟩)] w λe w'=>e=.returned (.pointer (some ⟨P.tb,0,none⟩))/\w'=w:=by
 have q0:=h.cells.2.2.2.2.2.1;clear h;go_enter func59,ntmps59;go_wp2;go_ret;exact⟨rfl,rfl⟩
theorem qme(h:qa6 g w a P M):Calls prog 62 #[.pointer (some ⟨a,0,none⟩)] w λe w'=>e=.returned (.pointer (some ⟨P.lp,0,none⟩))/\w'=w:=by
 have q0:=h.cells.2.2.2.2.2.2.2.1;clear h;go_enter func62,ntmps62;go_wp2;go_ret;exact⟨rfl,rfl⟩
end
end
section
open Go.RowKit Go.Maps Go.Sort Go.Shelf
theorem qxz(m:Nat):AnyZ.SortsIn prog qh8 Fence.wide m:=
 ⟨λblk off cap ss W hH hblk hsz=>callsIn_wide.2 (AnyM.slices_Sort_string qA6 blk off cap ss W hH hblk hsz),
  λp cap W=>callsIn_wide.2 (AnyM.slices_Sort_string_none qA6 p cap W)⟩
theorem qss(mb:Option Nat)(W:World):CallsIn Fence.wide 5 prog 298 #[.map mb] W λe w'=>e=.returned (.func (.func 335) #[] #[.pointer (some ⟨W.heap.size,0,none⟩)])/\w'=W.alloc (.cells #[.map mb] 195):=
 AnyZ.keys_in qz3 Fence.wide 5 trivial rfl mb W
theorem qmz{H:Type}(b nn:Nat)(D0:DataW H)(R:Value->Option (DataW H×List MemPlace))(w:World)(hown:w.ownsMap prog 9 R b nn D0)(hmax:Maps.size D0<=maxLen)(hbytes:Maps.size D0*16<=140737488355328):
 CallsIn Fence.wide 5 prog 297 #[.func (.func 335) #[] #[.pointer (some ⟨w.heap.size,0,none⟩)]] (w.alloc (.cells #[.map (some b)] 195)) λe w'=>∃(v:Value) (ss:List (List UInt8)),e=.returned v/\ss.Perm (strKeys D0) /\
  w'.ownsRow (w.alloc (.cells #[.map (some b)] 195)).heap.size 9 1 v ss.length ((ss.mergeSort (λx y=>decide (x<=y))).map encStr)/\(v=.slice none 0 0↔ss=[])/\Below (w.alloc (.cells #[.map (some b)] 195)).heap.size (w.alloc (.cells #[.map (some b)] 195)) w':=by
 have hbl:=hown.lt;have hseq:SeqGives Fence.wide 2 prog 335 #[.pointer (some ⟨w.heap.size,0,none⟩)] encStr (λss=>ss.Perm (strKeys D0)) (Maps.size D0) (w.alloc (.cells #[.map (some b)] 195)):=
  AnyZ.keys_gives (ρ:=qho) {qz3 with} Fence.wide _ trivial rfl (by omega) w.heap.size b nn D0 _ (by simp) (by simp) (by
   obtain⟨es,clock,hb,Ft,hs,hD⟩:=hown
   exact⟨es,clock,(Below.heap_alloc _ _ b hbl).trans hb,Ft,hs,hD⟩)
 exact AnyZ.sorted_in qrv Fence.wide 5 trivial trivial trivial trivial rfl (by omega) (qxz _) (enters_of func334 (by kernel_rfl) rfl) 335 #[.pointer (some ⟨w.heap.size,0,none⟩)] trivial (enters_of func335 (by kernel_rfl) rfl) _ _ hmax hbytes _ hseq
end
end Go.Proofs.YtecikkjbnkhhkaaGreat
