/- A part of the walk. -/
import Derived.Test.YtecikkjbnkhhkaaGreatP21
import Derived.Test.YtecikkjbnkhhkaaGreatP23
import Derived.Test.YtecikkjbnkhhkaaGreatP16
import Derived.OpenShut
import Derived.ProofKit
namespace Go.Proofs.YtecikkjbnkhhkaaGreat
open _root_.Go.Proofs.Tryz
set_option maxHeartbeats 8000000
set_option maxRecDepth 100000
section
open Go.RowKit
theorem qyo{α:Type}{enc:α->List Value}{e:TypeId}{n lo:Nat}{l:List α}{A:Option Addr}{c:Nat}{w:World}(ho:Own enc e n w lo A c l):∀b,some b=qa8 A c->b<w.heap.size:=λb hb=>by
 rcases ho.lt with h0|⟨b',off,hA,_,hlt⟩
 · rw[qa8,if_pos h0]at hb;cases hb
 · rw[qa8]at hb
   split at hb
   · cases hb
   · rw[hA]at hb;cases hb;exact hlt
theorem qnf(w:World)(lo p:Nat)(A:Option Addr)(c:Nat)(Q:List qa3)(h:qmi w lo p A c Q)(hQ:¬Q=[])(hlow:lo<=w.heap.size)(hL:∀L at' n,qbo w lo p A c L at' n->L.length<=1000000):Calls prog 346 #[.pointer (some ⟨p,0,none⟩)] w (qks lo p A c Q w):=by
 obtain⟨L,at',n,h1,rfl⟩:=h;have hl:=hL L at' n h1;have hp:=qa0 h1.box;have H1:=hid h1;have hn:¬n=0:=λh0=>hQ (by rw[h0];simp[qd4])
 have T:∀W,Below w.heap.size w W->Calls prog 366 #[.pointer (some ⟨p,0,none⟩)] W (qks lo p A c (qd4 L at' n) W):=λW hb =>
  qn3 W lo p A c L at' n (H1.out.keep (hb.block p hp) (λb _ hlt=>hb.block b hlt)) hn (Nat.le_trans hlow hb.size) hl
 have HT:=hid T;have HNR:=hid (qyo H1.out.rows);clear T h1 hL hQ;go_enter func346,ntmps346;go_upto_region 1 with fail;generalize hw1:World.alloc w _=w1;have R1:w1.heap[w.heap.size]? =some (.cells qak.enc.toArray 85 (0,0)):=by rw[<-hw1];exact(qa2 _ _ _).trans (if_pos rfl)
 have b1:Below w.heap.size w w1:=by rw[<-hw1];exact(Below.refl _ _).alloc (Nat.le_refl _) _
 have hl1:=qa0 R1;have HB1:=hid b1;have HR1:=hid R1;have hp1:=Nat.lt_of_lt_of_le hp b1.size;clear hw1 R1 b1;go_wp2_with fail;refine(HT.out w1 HB1.out).mono ?_;rintro e w2⟨x,Q',hq,rfl,hto⟩;have HTO:=hid hto;have HQ:=hid hq;have hpw:w.heap.size≠p:=by omega
 have hrw:some w.heap.size≠qa8 A c:=λh0=>by have:=HNR.out _ h0;omega
 have R2:=(hto.keep _ hl1 hpw hrw).trans HR1.out;have hl2:=qa0 R2;have HR2:=hid R2;have HX:=hid (show x.val=.agg #[.string x.key,.int .u64 (x.id:Int),.int .u64 (x.ver:Int),.int .i64 x.line,.int .i64 x.cls]from rfl);rw[HX.out];have f0:=frozen_of_row w2 _ 0 _ _ R2;have f1:=frozen_of_row w2 _ 1 _ _ R2;have f2:=frozen_of_row w2 _ 2 _ _ R2;have f3:=frozen_of_row w2 _ 3 _ _ R2;have f4:=frozen_of_row w2 _ 4 _ _ R2;have q0:=cell_of_row w2 _ 0 _ _ _ R2;have q1:=cell_of_row w2 _ 1 _ _ _ R2;have q2:=cell_of_row w2 _ 2 _ _ _ R2;have q3:=cell_of_row w2 _ 3 _ _ _ R2;have q4:=cell_of_row w2 _ 4 _ _ _ R2;simp only[qa3.enc,List.getElem?_toArray,List.getElem?_cons_zero,List.getElem?_cons_succ]at q0 q1 q2 q3 q4;clear R2 hto hq;have HO8:Hid (∀j,j≠w.heap.size->(w2.setCells w.heap.size 0 x.enc).heap[j]? =w2.heap[j]?):=hid λj hj=>qaa _ _ _ _ j hj
 go_wp2_with fail;refine bodyPost_ret (v:=.tuple #[x.val,.bool true]) (qdq results346 _ _ w.heap.size x _ (by simp) (by simp) (box5 HR2.out)) rfl ⟨x,Q',HQ.out,rfl,?_⟩;obtain⟨⟨A',c',⟨L',a2,n2,hf,hq'⟩,hloc⟩,hbel,hk,hring⟩:=HTO.out;have hs1:=HB1.out.size;refine⟨⟨A',c',⟨L',a2,n2,hf.keep (HO8.out p (λh0=>hpw h0.symm)) (λb hb hlt=>HO8.out b λh0=>?_),hq'⟩,hloc.imp id λ⟨g,off,h1,h2⟩=>⟨g,off,h1,by omega⟩⟩,?_,λb hb hbp hbr=>?_,λK hK hQ'=>(hring K (hK.same (HB1.out.block p hp)) hQ').same (HO8.out p (λh0=>hpw h0.symm))⟩
 · rw[h0]at hb
   rcases hloc with⟨rfl,rfl⟩|⟨g,off,rfl,hg⟩
   · exact hrw hb
   · rw[qa8]at hb
     split at hb
     · cases hb
     · simp at hb;omega
 · exact qae hlow x.enc 0 w2 ((HB1.out.mono hlow).trans hbel)
 · exact(HO8.out b (by omega)).trans ((hk b (by omega) hbp hbr).trans (HB1.out.block b hb))
theorem qng(w:World)(lo p:Nat)(A:Option Addr)(c:Nat)(Q:List qa3)(h:qmi w lo p A c Q)(hL:∀L at' n,qbo w lo p A c L at' n->L.length<=900000):Calls prog 63 #[.pointer (some ⟨p,0,none⟩)] w (qdl Q w):=by
 obtain⟨L,at',n,h1,rfl⟩:=h;have T:=hid (qn5 w lo p A c L at' n h1 (hL L at' n h1));have hp:=qa0 h1.box;clear h1 hL;go_enter func63,ntmps63;go_wp2_with fail;refine T.out.mono ?_;rintro e w1⟨A',c',rfl,hown,hb⟩;have HO:=hid hown;have HB:=hid hb;clear hown hb;go_wp2_with fail;go_ret;exact⟨A',c',rfl,HO.out,HB.out⟩
end
section
open Go.RowKit
def lvS(L:List qa3)(x:qa3)(k:Nat):Nat->List qa3:=λj=>if j<k then setL (atLv L j) x else atLv L j
theorem qsi(L:List qa3)(x:qa3)(k:Nat):lvS L x k k=atLv L k:=by simp[lvS]
theorem qot(L:List qa3)(x:qa3)(k:Nat)(j:Nat):upd (lvS L x k) k (setL (atLv L k) x) j=lvS L x (k+1) j:=by
 unfold upd lvS;by_cases h:j=k
 · subst h;simp
 · rw[if_neg h]
   by_cases h2:j<k
   · rw[if_pos h2,if_pos (by omega)]
   · rw[if_neg h2,if_neg (by omega)]
theorem qz1{L:List qa3}(h:Rise L)(x:qa3)(j:Nat):lvS L x (qgn x.key) j=atLv (setL L x) j:=by rw[qAm h];rfl
theorem qe5{w:World}{b:Nat}{cs:Array Value}{t:TypeId}(h:w.heap[b]? =some (.cells cs t (0,0)))(j:Nat):w.cell? ⟨b,j,none⟩=cs[j]? :=cell_of_row w b j _ _ _ h
theorem qvs{F:Nat->Prop}{L:List qa3}{ob:Nat}(x:qa3)(w:World)(h:Ord F w ob (atLv L))(hF:∀j,w.heap.size<=j->F j)(hr:Rise L)(hlen:L.length<=50000)(hkey:x.key.size<=1000000):
 Calls prog 281 #[.pointer (some ⟨ob,0,none⟩),.agg #[.string x.key,.int .u64 x.id,.int .u64 x.ver,.int .i64 x.line,.int .i64 x.cls]] w λe w'=>e=.returned (.bool (hasL L x.key))/\Ord F w' ob (atLv (setL L x))/\Only F w w':=by
 have hob:=h.lt;have HO:=hid h;have HR:=hid hr;have HFr:=hid hF;obtain⟨n,hn⟩:∃n,n=qgn x.key:=⟨_,rfl⟩;have hn4:=qhk x.key;rw[<-hn]at hn4;have hlev:∀w,Calls prog 326 #[.string x.key] w λe w'=>e=.returned (.int .i64 (n:Nat))/\w=w':=λw=>by rw[hn];exact qiw x.key hkey w
 have HN:=hid hn;have hn1:=hn4.1;have hn2:=hn4.2;clear h hr hF hn hn4 hkey;go_enter func281,ntmps281;go_wp2_with(go_at_call 326;refine(hlev _).mono ?_;rintro e w'⟨rfl,rfl⟩);obtain⟨W0,hW0⟩:∃W0,W0=w.alloc (.cells #[.string x.key,.int .u64 x.id,.int .u64 x.ver,.int .i64 x.line,.int .i64 x.cls] 85):=⟨_,rfl⟩;rw[<-hW0];have HW0:=hid hW0;have hz0:W0.heap.size=w.heap.size+1:=by rw[hW0];simp
 have hb0:Below w.heap.size w W0:=by rw[hW0];exact(by repeat(first|exact Below.refl _ _|assumption|refine Below.drew ?_|refine qa1 ?_ _|refine Below.alloc ?_ (by first|omega|simp <;> omega) _|refine Below.setCell ?_ (by first|omega|simp <;> omega) _))
 have hx0:W0.heap[w.heap.size]? =some (.cells #[.string x.key,.int .u64 x.id,.int .u64 x.ver,.int .i64 x.line,.int .i64 x.cls] 85 (0,0)):=by rw[hW0];exact Array.getElem?_push_size
 have HX0:=hid hx0;clear hW0 hx0;have HO0:Hid (Ord (λj=>F j/\j≠w.heap.size) W0 ob (lvS L x 0)):=hid ((((HO.out.trim).mono (G:=λj=>F j/\j≠w.heap.size) (λj hj=>⟨hj.1,by have:=hj.2;omega⟩)).below hb0).congr λj _=>by simp[lvS]);go_loopw [5,14] (λv5 v14 wr=>∃k:Nat,k<=n/\v14=.int .i64 k/\v5=.bool (decide (0<k)&&hasL L x.key)/\Ord (λj=>F j/\j≠w.heap.size) wr ob (lvS L x k)/\Only (λj=>F j/\j≠w.heap.size) W0 wr) (λ_ v14 _=>n-(intOf v14).toNat)
 case atStart=>exact⟨0,Nat.zero_le _,rfl,by simp,HO0.out,Only.refl _ _⟩
 case round =>
  obtain⟨k,hkn,rfl,rfl,hord,honly⟩:=hrel;by_cases hlt:k<n
  · have hxr:=(honly.block w.heap.size (by omega) (λhh=>hh.2 rfl)).trans HX0.out
    have x0:=qe5 hxr 0;have x1:=qe5 hxr 1;have x2:=qe5 hxr 2;have x3:=qe5 hxr 3;have x4:=qe5 hxr 4;simp at x0 x1 x2 x3 x4;obtain⟨hFob,A,c,hin⟩:=hord;have c0:=hin.cell k (by omega);have HIN:=hid hin;have HON:=hid honly;have hobr:=hin.lt;have hsz:=honly.size;rw[qsi]at c0;have hown:=hin.own k (by omega);rw[qsi]at hown;have HOW:=hid hown;have hln:=hown.len;have hmx:=hown.max;have hk4:(k:Int)<4:=by omega
    have hll:(atLv L k).length<=100000:=by have:=qy2 L k;omega
    clear hin honly hown hxr;go_wp2_with fail;go_region_with (go_at_call 312;refine(qli (atLv L k) (qhd HR.out k) _ _ x.key _ (((HOW.out.arr qa3.enc_len).below (by repeat(first|exact Below.refl _ _|assumption|refine Below.drew ?_|refine qa1 ?_ _|refine Below.alloc ?_ (by first|omega|simp <;> omega) _|refine Below.setCell ?_ (by first|omega|simp <;> omega) _))).more (by first|omega|simp <;> omega)) hln hmx hll).mono ?_;rintro e w1⟨rfl,hb1⟩);all_goals
     have bw1:Below wr.heap.size wr w1:=Below.trans (by repeat(first|exact Below.refl _ _|assumption|refine Below.drew ?_|refine qa1 ?_ _|refine Below.alloc ?_ (by first|omega|simp <;> omega) _|refine Below.setCell ?_ (by first|omega|simp <;> omega) _)) (hb1.mono (by first|omega|simp <;> omega));have hz1:=bw1.size;have c1:=(bw1.cell (p:=⟨ob,k,none⟩) hobr).trans c0;have hxw:w.heap.size<wr.heap.size:=by omega
     have y0:=(bw1.cell (p:=⟨w.heap.size,0,none⟩) hxw).trans x0;have y1:=(bw1.cell (p:=⟨w.heap.size,1,none⟩) hxw).trans x1;have y2:=(bw1.cell (p:=⟨w.heap.size,2,none⟩) hxw).trans x2;have y3:=(bw1.cell (p:=⟨w.heap.size,3,none⟩) hxw).trans x3;have y4:=(bw1.cell (p:=⟨w.heap.size,4,none⟩) hxw).trans x4;have HIN1:=hid (HIN.out.below bw1);have HOW1:=hid (HOW.out.below bw1);have hob1:ob<w1.heap.size:=by omega
     have hkey:hasL (atLv L k) x.key=hasL L x.key:=qy7 (by rw[<-HN.out];exact hlt);have HKEY:=hid hkey;clear hkey c0 x0 x1 x2 x3 x4 hb1;obtain⟨p,hp⟩:∃p,p=posL (atLv L k) x.key:=⟨_,rfl⟩;rw[<-hp];have HP:=hid hp;clear hp;cases hh:hasL (atLv L k) x.key with
     |true =>
      have HH:=hid hh;have HS:=qvn (qhd HR.out k) hh;rw[<-HP.out]at HS;have hpl:=HS.1;have hpl':(p:Int)<((atLv L k).length:Int):=by omega
      have HST:=hid HS.2;clear HS hh;obtain⟨b,off,hA,hB,k0,k1,k2,k3,k4⟩:=(HOW1.out.arr qa3.enc_len).link hpl;have hfz:=HOW1.out.frozen hA (by omega);have f0:=hfz (off+p*5);have f1:=hfz (off+p*5+1);have f2:=hfz (off+p*5+2);have f3:=hfz (off+p*5+3);have f4:=hfz (off+p*5+4);rw[hA]at c1;clear hfz;have hput:Ord (λj=>F j/\j≠w.heap.size) (w1.setCells b (off+p*5) x.enc).drew ob (lvS L x (k+1))/\Only (λj=>F j/\j≠w.heap.size) w1 (w1.setCells b (off+p*5) x.enc).drew:=by
       have g:=qb4 b x.enc (off+p*5) w1;have hck:¬(c k=0):=by omega
       have ho2:Own qa3.enc 85 5 (w1.setCells b (off+p*5) x.enc).drew 0 (A k) (c k) (setL (atLv L k) x):=by
        have ho:=HOW1.out;rw[hA]at ho ⊢;rw[HST.out];exact(ho.setLink hpl x).drew
       obtain⟨r1,r2⟩:=HIN1.out.put2 hFob (by omega) (w3:=(w1.setCells b (off+p*5) x.enc).drew) (by rw[hA,qa8,if_neg hck];exact⟨g.os,g.tape,g.output,g.size,g.block⟩) ho2 (by rw[qsi,HST.out,List.length_set]);exact⟨r1.congr λj _=>qot L x k j,r2⟩
      have HPUT:=hid hput;clear hput;go_wp2_with fail;go_region;all_goals
       go_wp2_with fail;go_roundw
       case rel =>
        refine⟨k+1,by omega,by go_num,?_,HPUT.out.1,(HON.out.trans (Only.of_below bw1)).trans HPUT.out.2⟩;rw[<-HKEY.out,HH.out];simp
       case measure=>simp[intOf];omega
     |false =>
      have HH:=hid hh;have HS:=qvl (qhd HR.out k) hh;rw[<-HP.out]at HS;have hpl:=HS.1;have HST:=hid HS.2;have HL4:=hid (HIN1.out.lies k (by omega));have q1':=HIN1.out.frz k;clear HS hh;go_wp2_with fail;go_region_with (go_at_call 327;refine(qnj (atLv L k) (A k) (c k) 0 w1.heap.size p x _ ?_ ?_ (Nat.zero_le _) hll hpl ?_).mono ?_;(exact HOW1.out.below (by repeat(first|exact Below.refl _ _|assumption|refine Below.drew ?_|refine qa1 ?_ _|refine Below.alloc ?_ (by first|omega|simp <;> omega) _|refine Below.setCell ?_ (by first|omega|simp <;> omega) _)));(exact Array.getElem?_push_size);(rcases HOW1.out.lt with h0|⟨b,off,hA,_,hlt⟩;exact .inl h0;exact .inr λb' o' hA' hbb=>by rw[hA]at hA';cases hA';omega);rintro e w3⟨A',c',rfl,hown,hgr,hloc⟩;have hb3:w3.heap[ob]? =w1.heap[ob]? :=((hgr.block ob (by simp;omega) λhr=>((HOW1.out.row HL4.out ob hr.symm).2 rfl)).trans (Below.heap_alloc _ _ _ (show ob<w1.heap.size by omega)));have q0:=(qaj (p:=⟨ob,k,none⟩) hb3).trans c1;have q1:=(qbg (p:=⟨ob,k,none⟩) hb3).trans q1');all_goals
       go_wp2_with fail;go_roundw
       case rel =>
        obtain⟨r1,r2⟩:=HIN1.out.put hFob (by omega) (λj hj=>⟨HFr.out j (by omega),by omega⟩) (by repeat(first|exact Below.refl _ _|assumption|refine Below.drew ?_|refine qa1 ?_ _|refine Below.alloc ?_ (by first|omega|simp <;> omega) _|refine Below.setCell ?_ (by first|omega|simp <;> omega) _)) hgr hown (qfx _ _ _ hpl).symm hloc;refine⟨k+1,by omega,by go_num,?_,?_,(HON.out.trans (Only.of_below bw1)).trans r2⟩
        · rw[<-HKEY.out,HH.out]
          simp
        · rw[<-HST.out]at r1
          exact r1.congr λj _=>qot L x k j
       case measure=>simp[intOf];omega
  · obtain rfl:k=n:=by omega
    have HORD:=hid hord;have HON:=hid honly;clear hord honly;go_wp2;go_ret;refine⟨?_,?_,(Only.of_below hb0).trans (HON.out.mono λj hj=>hj.1)⟩
    · have:decide (0<k)=true:=by simp;omega
      simp[this]
    · have:=HORD.out.mono (G:=F) (λj hj=>hj.1)
      exact this.congr λj _=>by rw[HN.out];exact qz1 HR.out x j
end
section
open Go.ChangeShapes Go.WideShapes Go.ChangeAt Go.RowKit
theorem qyk:ownKnob prog.godebug=none:=by kernel_rfl
theorem qmo:laidOutB prog=true:=by kernel_rfl
theorem qjd{H:Type}{enc:TypeId×Value->H}{P:Program}(hl:laidOutB P=true){W W':World}(hb:Below W.heap.size W W'):
 ∀(ts:List TypeId) (vs:List Value) (ds:List (DataW H)) (ps:List MemPlace),(∀t∈ts,P.readableRec t=true/\t<P.types.size) ->
  DataW.TrodAll enc P W 0 (λ_=>true) true ts vs ds ps->(∀x∈ps,x.block<W.heap.size)->DataW.TrodAll enc P W' 0 (λb=>decide (b<W.heap.size)) true ts vs ds ps
 | [],[],[],ps,_,h,_=>h
 |t::ts,v::vs,d::ds,ps,ht,⟨p,q,h0,h1,e⟩,hp=>by
  subst e
  exact⟨p,q,Below.trod hl (ht t (by simp)).1 (ht t (by simp)).2 h0 hb λx hx=>hp x (by simp[hx]),
   qjd hl hb ts vs ds q (λt' h'=>ht t' (by simp[h'])) h1 λx hx=>hp x (by simp[hx]),rfl⟩
 | [],[],_::_,_,_,h,_=>absurd h (by simp[DataW.TrodAll])
 | [],_::_,_,_,_,h,_=>absurd h (by simp[DataW.TrodAll])
 |_::_,[],_,_,_,h,_=>absurd h (by simp[DataW.TrodAll])
 |_::_,_::_,[],_,_,h,_=>absurd h (by simp[DataW.TrodAll])
theorem qeo{H:Type}{enc:TypeId×Value->H}{P:Program}{W:World}{b:Nat}{sp:Nat->Bool}{hd:Bool}:
 ∀(ts:List TypeId) (vs:List Value) (ds:List (DataW H)) (ps:List MemPlace),DataW.TrodAll enc P W b sp hd ts vs ds ps->ds.length=ts.length
 | [],[],[],_,_=>rfl
 |t::ts,v::vs,d::ds,_,⟨p,q,_,h1,_⟩=>by simp[qeo ts vs ds q h1]
 | [],[],_::_,_,h=>absurd h (by simp[DataW.TrodAll])
 | [],_::_,_,_,h=>absurd h (by simp[DataW.TrodAll])
 |_::_,[],_,_,h=>absurd h (by simp[DataW.TrodAll])
 |_::_,_::_,[],_,h=>absurd h (by simp[DataW.TrodAll])
def Walk(f:FuncId)(fn:Func):Prop:=
 ∀(H:Type) (enc:TypeId×Value->H) (W:World) (base:Nat) (args:Array Value) (ds:List (DataW H)) (p:List MemPlace),
  (∀(j:Nat) t v,fn.params[j]? =some t->args[j]? =some v->Value.okWide prog W .any base t v) ->
  DataW.TrodAll enc prog W 0 (λ_=>true) true fn.params.toList args.toList ds p ->
  Calls prog f args W λe W'=>e=.returned (.bool true)/\Below W.heap.size W W'
theorem qif{f:FuncId}{fn:Func}{s:ChangeSpec}{os:Os}(started:os.Started){H:Type}{enc:TypeId×Value->H}(hw:Walk f fn)(noInit:prog.inits.idxOf? f=none)(hfn:prog.funcs[f]? =some fn)
 (hres:fn.resultTypes=#[4]) (hvars:s.vars=[]) (hts:fn.params.toList.all (λt=>prog.readableRec t&&decide (t<prog.types.size))=true)
 (hspec:∀ds:List (DataW H),ds.length=fn.params.size->s.fn H ds= {results:=[.lit (.bool true)],args:=ds})
 (witness:∃(w:World) (tape:Tape) (i:Input),w.os=os/\(w.forCall tape i).Shaped prog/\i.vars=[]/\Input.okWide prog (w.forCall tape i) .any w.heap.size f i /\
  s.pre6 enc prog fn [] false (w.forCall tape i).memory i.args/\({}:Assume).holds prog (lone (Frame.enter prog f i.args .normal) [] (w.forCall tape i))):
 ReturnsInHanded {} Tryz.checked os f .any (s.pre6 enc prog fn [] false) (s.post enc prog fn false true false false):=by
 refine returnsInHanded_of_change (C:=Tryz.checked) qyk started noInit hfn witness ?_;intro W base args ds gs before hval hW hcnd _;have hW':=hW;obtain⟨p,q,hA,hV,rfl,hfz,hnd⟩:=hW;rw[hvars]at hV;obtain⟨rfl,rfl⟩:=trodVars_none hV;refine(hw H enc W base args ds p hval hA).mono λe W' ⟨he,bel⟩=>?_
 subst he;have hlt:∀x∈p,x.block<W.heap.size:=λx hx=>hW'.lt x (by simp[hx])
 have hl:ds.length=fn.params.size:=by rw[qeo _ _ _ _ hA];simp
 have e1:s.fn H (ds++[])= {results:=[.lit (.bool true)],args:=ds}:=by rw[List.append_nil];exact hspec ds hl
 have hpp:∀t∈fn.params.toList,prog.readableRec t=true/\t<prog.types.size:=λt ht=>by
  have:=List.all_eq_true.1 hts t ht;rw[Bool.and_eq_true]at this;exact⟨this.1,of_decide_eq_true this.2⟩
 refine⟨_,rfl,ds,[],p++[],[],p,[],hW',?_,?_,?_,bel.frame _,λh=>by cases h⟩
 · rw[e1,hres]
   exact trodAll_mk1 (shut_bool underlying4 _)
 · rw[e1]
   exact qjd qmo bel _ _ _ _ hpp hA hlt
 · rw[e1,hvars]
   rfl
end
end Go.Proofs.YtecikkjbnkhhkaaGreat
