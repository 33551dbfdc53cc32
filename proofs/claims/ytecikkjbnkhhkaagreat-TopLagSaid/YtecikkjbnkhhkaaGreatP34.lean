/- A part of the walk. -/
import Derived.Test.YtecikkjbnkhhkaaGreatP33
namespace Go.Proofs.YtecikkjbnkhhkaaGreat
open _root_.Go.Proofs.Tryz
set_option maxHeartbeats 4000000
set_option maxRecDepth 100000
section
open Go.RowKit
section
variable {g:Own8}{w:World}{lo a b t:Nat}{P:qag}{M:qa4}{ty:TypeId}{f:qa5}{d:FrD}
theorem qkz(h:WSt g w lo a P M b t ty f d):Calls prog 250 #[.pointer (some ⟨b,0,none⟩)] w λe w'=>e=.returned (.bool (f.call.kind==5))/\w'=w:=by
 have c2:=h.box.c 2 rfl;have hl:=h.box.lt;clear h;go_enter func250,ntmps250;go_wp2_with fail;go_ret;exact⟨rfl,rfl⟩
def qBq(M:qa4)(f:qa5)(d:FrD)(M':qa4)(f':qa5)(d':FrD):Prop:=d'=d/\((f.line<0/\M'=M/\f'=f)\/(¬f.line<0/\(∃S',qi6 M.S S'/\M'= {M with S:=S'})/\f'= {f with line:= -1}))
theorem qim(h:WSt g w lo a P M b t ty f d):Calls prog 252 #[.pointer (some ⟨b,0,none⟩)] w (qal lo a P b t ty (qBq M f d) g w):=by
 have H:=hid h;clear h;go_enter func252,ntmps252;go_wp2_with fail;go_step3;go_wp2_with fail;go_step3;go_wp2_with fail;go_loopg [] 1 (λgk wr=>(gk=1/\wr=w)\/(gk=0/\∃M' f' g',¬f.line<0/\(∃S',qi6 M.S S'/\M'= {M with S:=S'})/\f'= {f with line:= -1}/\WSt g' wr lo a P M' b t ty f' d/\ExtB lo b g g' w wr))
 case atStart=>exact .inl ⟨rfl,rfl⟩
 case round =>
  rcases hrel with⟨rfl,hwr⟩|⟨rfl,M',f',g',hn,hM,hf',h',e'⟩
  · rw[hwr]
    clear hwr;by_cases hln:f.line<0
    · have hge:decide (0<=f.line)=false:=decide_eq_false (by omega)
      have HL:=hid hln;have c18:=H.out.box.c 18 rfl;have hl:=H.out.box.lt;clear hln;go_wp2_with fail;refine bodyPost_ret (v:=.tuple #[]) (by simp[results,results252]) rfl ⟨rfl,M,f,d,⟨rfl,.inl ⟨HL.out,rfl,rfl⟩⟩,g,H.out,ExtB.refl _ _ _ _⟩
    · have hge:decide (0<=f.line)=true:=decide_eq_true (by omega)
      have HL:=hid hln;have c0:=H.out.c0;have c18:=H.out.box.c 18 rfl;have hl:=H.out.box.lt;have TG:=hid (qf9 H.out.drew);clear hln;go_upto_region 1 with fail;go_still_tail 7,(by kernel_rfl);change wpList _ _ _ _ _ (World.drew w);have HE1:Hid (ExtB lo b g g w w.drew):=hid (ExtB.below (Below.refl _ _).drew);generalize hw1:World.drew w=w1 at *;clear hw1 c0 hl c18;go_wp2_with fail;refine TG.out.mono ?_;rintro r w2⟨rfl,S',hS,g2,h2,e2⟩;have HS:=hid hS;have H2:=hid h2;have HE2:=hid (HE1.out.trans e2);clear hS h2 e2 TG;go_wp2_with fail;go_roundg 0
      case measure=>omega
      case rel=>exact .inr ⟨rfl,_,_,g2,HL.out,⟨S',HS.out,rfl⟩,rfl,H2.out,HE2.out⟩
  · have c18:=h'.box.c 18 rfl
    have hl:=h'.box.lt;rw[hf']at c18;have HX:=hid (And.intro hn (And.intro hM (And.intro hf' (And.intro h' e'))));clear hn hM hf' h' e';go_wp2_with fail;refine bodyPost_ret (v:=.tuple #[]) (by simp[results,results252]) rfl ⟨rfl,M',f',d,⟨rfl,.inr ⟨Int.not_lt.2 HX.out.1,HX.out.2.1,HX.out.2.2.1⟩⟩,g',HX.out.2.2.2.1,HX.out.2.2.2.2⟩
end
end
section
open Go.RowKit
theorem qj1:(prog.info? 330).map (λi=>(i.zero,i.size,i.bytes))=some (some (.agg qAa.enc.toArray),8,72):=by kernel_rfl
theorem qAh(n:Nat)(hn:n<=1000000)(W:World):(Instr.makeSlice 87 (.int .i64 (n:Int)) (.int .i64 (n:Int))).run prog W=.ok (.slice (some ⟨W.heap.size,0,none⟩) n n) (W.alloc (.cells (madeCells qAa.enc.toArray (n*8)) 330)):=by
 obtain⟨i0,hi,hz0,hz1,hz2⟩:=info_parts qj1;have h:=run_make (P:=prog) W 87 330 i0 _ underlying87 hi hz0 .i64 .i64 (n:Int) (n:Int) (by omega) (by omega) (by rw[hz2];omega) (by omega);rw[hz1]at h;simp only[Int.toNat_natCast]at h;rw[h];rfl
theorem qe3{q:Nat}{t:TypeId}:∀(vs:List Value) (o:Nat) (w:World) (cur:Array Value),w.heap[q]? =some (.cells cur t (0,0))->∃cur',(w.setCells q o vs).heap[q]? =some (.cells cur' t (0,0))/\cur'.size=cur.size
 | [],_,_,cur,h=>⟨cur,h,rfl⟩
 |v::r,o,w,cur,h=>by
  obtain⟨cur',h1,h2⟩:=qe3 r (o+1) (w.setCell ⟨q,o,none⟩ v) _ (heap_setCell_same w q o _ _ v h)
  exact⟨cur',h1,by rw[h2];simp⟩
theorem qid{w:World}{q:Nat}{A B:List Value}(h1:w.rangeAt q 0 A)(h2:w.rangeAt q A.length B):w.rangeAt q 0 (A++B):=λj v hv=>by
 by_cases hj:j<A.length
 · rw[List.getElem?_append_left hj]at hv
   exact h1 j v hv
 · rw[List.getElem?_append_right (by omega)]at hv
   have:=h2 _ v hv
   rw[show A.length+(j-A.length)=0+j by omega]at this
   exact this
def qih(w:World)(q n:Nat)(x:qas)(k:Nat):Prop:=(∃cur,w.heap[q]? =some (.cells cur 330 (0,0))/\cur.size=n*8)/\w.rangeAt q 0 ((List.replicate k x).flatMap qas.enc)
theorem qfq(k:Nat)(x:qas):((List.replicate k x).flatMap qas.enc).length=k*8:=by
 induction k with
 |zero=>rfl
 |succ k ih=>rw[List.replicate_succ,List.flatMap_cons,List.length_append,ih,qas.enc_len];omega
theorem qih.copy{w:World}{q n:Nat}{x:qas}{k m:Nat}(h:qih w q n x k)(hk:k+m<=n):qih (w.setCells q (k*8) ((List.replicate m x).flatMap qas.enc)) q n x (k+m):=by
 obtain⟨⟨cur,h1,h2⟩,h3⟩:=h;obtain⟨cur',h4,h5⟩:=qe3 ((List.replicate m x).flatMap qas.enc) (k*8) w cur h1;refine⟨⟨cur',h4,by omega⟩,?_⟩;rw[<-List.replicate_append_replicate,List.flatMap_append];refine qid (World.rangeAt_setCells_apart h3 q (k*8) _ (.inr (.inl (by rw[qfq];omega)))) ?_;rw[qfq];exact World.rangeAt_setCells_same w q (k*8) _ (λj hj=>by rw[qfq]at hj;have:=qai h1 h2 (k*8+j) (by omega);rw[Nat.zero_add]at this;exact this)
theorem qih.own{w:World}{q n lo:Nat}{x:qas}(h:qih w q n x n)(hlo:lo<=q)(hn:n<=1000000):Own qas.enc 330 8 w lo (some ⟨q,0,none⟩) n (List.replicate n x):=by
 obtain⟨⟨cur,h1,h2⟩,h3⟩:=h;refine⟨by simp,by unfold maxLen;omega,.inr ⟨q,0,cur,rfl,hlo,h1,by omega,λj u hu=>?_⟩⟩;have:=h3 j u hu;rw[cell_of_row w q (0+j) _ _ _ h1]at this;exact this
def qxn(x:qas)(n:Nat)(w:World)(e:Ending)(w':World):Prop:=∃A,e=.returned (.slice A n n)/\Own qas.enc 330 8 w' w.heap.size A n (List.replicate n x)/\Below w.heap.size w w'
theorem qn6(x:qas)(p:Nat)(n:Nat)(w:World)(hx:w.heap[p]? =some (.cells x.enc.toArray 330 (0,0)))(h1:1<=n)(hn:n<=1000000):Calls prog 256 #[.slice (some ⟨p,0,none⟩) 1 1,.int .i64 (n:Int)] w (qxn x n w):=by
 have TM:=hid (λW=>qz0 n hn W);have hc1:IntKind.u64.wrap (n:Int)=(n:Int):=Go.IntWalk.u64_in _ (by omega);have hc2:IntKind.i64.wrap (n:Int)=(n:Int):=Go.IntWalk.i64_in _ (by omega);have hn0:decide ((n:Int)<0)=false:=decide_eq_false (by omega);have hn1:decide ((9223372036854775807:Int)<(n:Int))=false:=decide_eq_false (by omega);go_enter func256,ntmps256;go_wp2_with fail;refine(TM.out _).mono ?_;rintro e w1⟨rfl,hw1⟩;rw[hw1];clear hw1;have MK:=λW=>qAh n hn W
 go_upto_region 7 with fail;generalize hw2:World.alloc _ _=w2;obtain⟨q,hq⟩:∃q,q=w.heap.size:=⟨_,rfl⟩;obtain⟨cur,R2,hcur⟩:∃cur,w2.heap[q]? =some (.cells cur 330 (0,0))/\cur.size=n*8:=⟨_,by rw[<-hw2,hq];exact(qa2 _ _ _).trans (if_pos rfl),size_madeCells _ _⟩;have b2:Below w.heap.size w w2:=by rw[<-hw2];exact(Below.refl _ _).alloc (Nat.le_refl _) _
 have hx2:=qac b2 (qa0 hx) hx;obtain⟨i0,hi0,hz0,hz1,hz2⟩:=info_parts qj1;have HQ0:Hid (qih w2 q n x 0):=hid ⟨⟨cur,R2,hcur⟩,λj v hv=>by simp at hv⟩;obtain⟨w3,hw3⟩:∃w3,w3=w2.setCells q 0 x.enc:=⟨_,rfl⟩;have HQ1:Hid (qih w3 q n x 1):=hid (by
  have:=HQ0.out.copy (m:=1) (by omega)
  simp only[Nat.zero_mul,List.replicate_one,List.flatMap_cons,List.flatMap_nil,List.append_nil,Nat.zero_add]at this
  rw[hw3];exact this)
 have HC1:∀ty,(Builtin.copy_ #[87,87] ty #[.slice (some ⟨q,0,none⟩) n n,.slice (some ⟨p,0,none⟩) 1 1]).run prog w2=.ok (.int .i64 1) w3:=λty=>by
  have hm:Nat.min 1 n=1:=Nat.min_eq_left h1;have h:=qcn (P:=prog) w2 87 87 ty 330 i0 q 0 n n ⟨p,0,none⟩ 1 1 x.enc underlying87 hi0 (by rw[hm,hz1];rfl) (λj v hv=>by rw[Addr.add_mid];exact qb5 hx2 j v hv) (λj hj=>(qai R2 hcur j (by rw[qas.enc_len]at hj;omega)).1) (λj hj=>(qai R2 hcur j (by rw[qas.enc_len]at hj;omega)).2) x.enc_one;rw[hm]at h;rw[hw3];exact h
 have hb3:Below w.heap.size w w3:=by rw[hw3];exact qae (by omega) _ _ _ b2
 have HB3:=hid hb3;rw[<-hq];have HQW:=hid (show w.heap.size<=q by omega);clear hw2 R2 hcur b2 hx2 HQ0 hw3 hb3 MK hq hx TM hc1 hc2;go_wp2_with fail;go_loopw [8] (λv8 wr=>∃k:Nat,1<=k/\k<=n/\v8=.int .i64 (k:Int)/\qih wr q n x k/\Below w.heap.size w wr) (λv8 _=>n-(intOf v8).toNat)
 case atStart=>exact⟨1,Nat.le_refl _,h1,rfl,HQ1.out,HB3.out⟩
 case round =>
  obtain⟨k,hk1,hkn,rfl,hrep,hbr⟩:=hrel;have HREP:=hid hrep;have HBR:=hid hbr;clear hrep hbr HC1;by_cases hlt:k<n
  · have i1:(0:Int)<=(k:Int):=by omega
    have i2:(k:Int)<=(n:Int):=by omega
    have i3:(k:Int)<(n:Int):=by omega
    go_wp2_with fail;obtain⟨m,hm⟩:∃m,m=Nat.min k (n-k):=⟨_,rfl⟩;have hmk:m<=k:=by rw[hm];exact Nat.min_le_left _ _
    have hmn:m<=n-k:=by rw[hm];exact Nat.min_le_right _ _
    have hm1:1<=m:=by rw[hm];exact Nat.le_min.2 ⟨hk1,by omega⟩
    obtain⟨w5,hw5⟩:∃w5,w5=wr.drew.setCells q (k*8) ((List.replicate m x).flatMap qas.enc):=⟨_,rfl⟩;have HR5:Hid (qih w5 q n x (k+m)):=hid (by rw[hw5];exact qih.copy (w:=wr.drew) HREP.out (by omega));have HB5:Hid (Below w.heap.size w w5):=hid (by rw[hw5];exact qae HQW.out _ _ _ HBR.out.drew);have HCk:∀ty,(Builtin.copy_ #[87,87] ty #[.slice (some ⟨q,k*8,none⟩) (n-k) (n-k),.slice (some ⟨q,0,none⟩) k n]).run prog wr.drew=.ok (.int .i64 (m:Int)) w5:=λty=>by
     obtain⟨⟨cu,hc1,hc2⟩,hc3⟩:=HREP.out;have h:=qcn (P:=prog) wr.drew 87 87 ty 330 i0 q (k*8) (n-k) (n-k) ⟨q,0,none⟩ k n ((List.replicate m x).flatMap qas.enc) underlying87 hi0 (by rw[qfq,hz1,hm]) (λj v hv=>by
      rw[Addr.add_mid]
      refine hc3 j v ?_
      rw[show k=m+(k-m)by omega,<-List.replicate_append_replicate,List.flatMap_append,List.getElem?_append_left (List.getElem?_eq_some_iff.1 hv).1]
      exact hv) (λj hj=>by rw[qfq]at hj;have:=(qai hc1 hc2 (k*8+j) (by omega)).1;rw[Nat.zero_add]at this;exact this) (λj hj=>by rw[qfq]at hj;have:=(qai hc1 hc2 (k*8+j) (by omega)).2;rw[Nat.zero_add]at this;exact this) (λv hv=>by
      obtain⟨y,hy,hvy⟩:=List.mem_flatMap.1 hv
      rw[List.eq_of_mem_replicate hy]at hvy
      exact x.enc_one v hvy)
     rw[<-hm]at h;rw[hw5];exact h
    have i4:IntKind.i64.wrap ((k:Int)+(m:Int))=((k+m:Nat):Int):=by rw[Go.IntWalk.i64_in _ (by omega)];omega
    clear hw5;go_region;have HM:=hid hm;go_wp2_with fail;go_roundw
    case measure=>rw[<-HM.out];simp[intOf];omega
    case rel=>exact⟨k+m,by omega,by omega,by rw[<-HM.out];simp,HR5.out,HB5.out⟩
  · have i3:¬(k:Int)<(n:Int):=by omega
    obtain rfl:k=n:=by omega
    go_wp2_with fail;go_ret;exact⟨_,rfl,HREP.out.own HQW.out hn,HBR.out⟩
end
section
open Go.RowKit
def qC9(k p:Nat):Value:=.func (.func k) #[.pointer (some ⟨p,0,none⟩)] #[]
section
variable {w:World}{lo p oc now dur clo:Nat}{owed:List Int}{noted left:List Bool}{step:Value}
theorem qEb{n:Nat}(hn:noted.length=258)(hl:left.length=258)(v:Value):(clkC now dur clo oc n noted left step).set 520 v=clkC now dur clo oc n noted left v:=by
 unfold clkC qx5;rw[List.set_append_right _ _ (by simp[hn,hl])];simp[hn,hl]
theorem qEd{n:Nat}(hn:noted.length=258)(hl:left.length=258):(clkC now dur clo oc n noted left step)[520]? =some step:=by
 unfold clkC qx5;rw[List.getElem?_append_right (by simp[hn,hl])];simp[hn,hl]
theorem qbi.c520(h:qbi w lo p oc now dur clo owed noted left step):w.cell? ⟨p,520,none⟩=some step:=by
 rw[cell_of_row w p 520 _ _ _ h.box,List.getElem?_toArray];exact qEd h.len.2.2.1 h.len.2.2.2
theorem qbi.setStep(h:qbi w lo p oc now dur clo owed noted left step)(v:Value):qbi (w.setCell ⟨p,520,none⟩ v) lo p oc now dur clo owed noted left v:=by
 refine⟨?_,(Below.heap_setCell _ _ _ _ (Ne.symm h.lo.2.2)).trans h.rows,h.lo,h.len⟩;rw[heap_setCell_same w p 520 _ _ v h.box,List.setIfInBounds_toArray,qEb h.len.2.2.1 h.len.2.2.2]
theorem qbi.setClo(h:qbi w lo p oc now dur clo owed noted left step)(v:Nat):qbi (w.setCell ⟨p,2,none⟩ (.int .u64 (v:Int))) lo p oc now dur v owed noted left step:=by
 refine⟨?_,(Below.heap_setCell _ _ _ _ (Ne.symm h.lo.2.2)).trans h.rows,h.lo,h.len⟩;rw[heap_setCell_same w p 2 _ _ (.int .u64 (v:Int)) h.box,List.setIfInBounds_toArray];rfl
theorem qbi.fr(h:qbi w lo p oc now dur clo owed noted left step)(o:Nat):w.frozen? ⟨p,o,none⟩=false:=frozen_of_row w p o _ _ h.box
end
section
variable {g:Own8}{w w':World}{a:Nat}{P:qag}{M:qa4}
theorem qCb(h:qa6 g w a P M)(o:Nat)(v:Value):qcx g 5 w (w.setCell ⟨P.cp,o,none⟩ v):=(Only.refl _ w).setCell _ _ (.inl h.clk.2.1)
theorem qa6.setStep(h:qa6 g w a P M)(v:Value):ATo g w (w.setCell ⟨P.cp,520,none⟩ v) a P {M with step:=v}:=h.setClk (qCb h _ _) (h.clk.1.setStep v)
theorem qa6.setClo(h:qa6 g w a P M)(v:Nat):ATo g w (w.setCell ⟨P.cp,2,none⟩ (.int .u64 (v:Int))) a P {M with clo:=v}:=h.setClk (qCb h _ _) (h.clk.1.setClo v)
theorem qa6.setDurC(h:qa6 g w a P M)(v:Nat):ATo g w (w.setCell ⟨P.cp,1,none⟩ (.int .u64 (v:Int))) a P {M with dur:=v}:=h.setClk (qCb h _ _) (h.clk.1.setDur v)
def qDj(a:Nat)(P:qag)(M':qa4)(act:Int)(g:Own8)(w:World)(e:Ending)(w':World):Prop:=e=.returned (.int .i64 act)/\ATo g w w' a P M'
theorem qE9(h:qa6 g w a P M){D:List qab}(hd:qbb w' 0 P.dp P.dc D)(ho:Old2 0 P.dp P.dc w w'):ATo g w w' a P {M with D:=D}:=
 h.setDev (qcx.of2 ho.below (λj hj h1 h2=>ho.keep j hj h1 h2) h.dev.2.2.2.1 h.dev.2.2.2.2) hd
theorem qCg(fn:Fn)(first cap:Array Value)(A:Addr)(m:Mode)(W:World):(store A (.func fn first cap) m).run prog W=stored prog W A (.func fn first cap) m:=run_store _ _ _ _ _ rfl
theorem qE0(A:Addr)(m:Mode)(W:World):(store A Value.nilFunc m).run prog W=stored prog W A Value.nilFunc m:=run_store _ _ _ _ _ rfl
theorem qEf(h:qa6 g w a P M)(h1:1<M.D.length):Calls prog 314 #[.pointer (some ⟨P.cp,0,none⟩),.pointer (some ⟨P.dp,0,none⟩)] w (qDj a P {M with D:=M.D.set 1 M.D[1].flush,step:=qC9 352 P.cp} 1 g w):=by
 have TF:=hid (qlw w 0 P.dp P.dc M.D h.dev.2.1 1 h1);have H:=hid h;have hlc:=h.clk.1.lt;have hmf:∀(fn:Fn) (first cap:Array Value) (W:World),(Instr.makeFunc fn first cap).run prog W=.ok (.func fn first cap) W:=λ_ _ _ _=>rfl
 have hsf:=qCg;clear h;go_enter func314,ntmps314;go_wp2_with fail;refine TF.out.mono ?_;rintro e w2⟨rfl,hd,ho⟩;obtain⟨g2,ha2,hx2⟩:=qE9 H.out hd ho;have H2:=hid ha2;have HX2:=hid hx2;have c520:=ha2.clk.1.c520;have fr:=ha2.clk.1.fr 520;have hl2:=ha2.clk.1.lt;clear hd ho ha2 hx2 TF;go_wp2_with fail;go_ret;exact⟨rfl,ATo.trans HX2.out (H2.out.setStep _)⟩
theorem qEs(h:qa6 g w a P M):Calls prog 352 #[.pointer (some ⟨P.cp,0,none⟩),.pointer (some ⟨P.dp,0,none⟩)] w (qDj a P {M with D:=M.D.map qab.fence,dur:=M.clo,clo:=0,step:=Value.nilFunc} 2 g w):=by
 have TF:=hid (qta w 0 P.dp P.dc M.D h.dev.2.1);have H:=hid h;have hlc:=h.clk.1.lt;have hsn:=qE0;clear h;go_enter func352,ntmps352;go_wp2_with fail;refine TF.out.mono ?_;rintro e w2⟨rfl,hd,ho⟩;obtain⟨g2,ha2,hx2⟩:=qE9 H.out hd ho;have ha3:=ha2.below (Below.refl _ _).drew;have H3:=hid ha3;have HX3:=hid (hx2.trans (Ext.below (g:=g2) (Below.refl _ _).drew));have hl2:=ha3.clk.1.lt;have TL:=hid (qe7 P.cp 2 (M.clo:Int) w2.drew ha3.clk.1.c2 hl2);have TS:=hid (qfn P.cp 1 (M.dur:Int) (M.clo:Int) w2.drew ha3.clk.1.c1 (ha3.clk.1.fr 1) hl2);clear hd ho ha2 hx2 ha3 TF;go_upto_region 2 with fail;go_still_tail 7,(by kernel_rfl);still_call TL.out;repeat still_step
 refine wpStill_nil ?_;change wpList _ _ _ _ _ (World.drew w2);generalize World.drew w2=w3 at *;go_wp2_with fail;refine TS.out.mono ?_;rintro e w4⟨rfl,he⟩;obtain⟨g4,ha4,hx4⟩:=H3.out.setDurC M.clo;rw[<-he]at ha4 hx4;have H4:=hid ha4;have HX4:=hid (HX3.out.trans hx4);have hl4:=ha4.clk.1.lt;have TS2:=hid (qfn P.cp 2 (M.clo:Int) 0 w4 ha4.clk.1.c2 (ha4.clk.1.fr 2) hl4);clear he ha4 hx4 TS TL hl2;go_wp2_with fail;refine TS2.out.mono ?_;rintro e w5⟨rfl,he⟩;obtain⟨g5,ha5,hx5⟩:=H4.out.setClo 0;rw[show((0:Nat):Int)=0 from rfl,<-he]at ha5 hx5;have H5:=hid ha5;have HX5:=hid (HX4.out.trans hx5);have hl5:=ha5.clk.1.lt;have c520:=ha5.clk.1.c520;have fr:=ha5.clk.1.fr 520;clear he ha5 hx5 TS2 hl4;go_wp2_with fail;go_ret;exact⟨rfl,ATo.trans HX5.out (H5.out.setStep _)⟩
end
end
section
open Go.RowKit
section
variable {g:Own8}{w w':World}{a:Nat}{P:qag}{M:qa4}
theorem qCf(h:qa6 g w a P M):Calls prog 145 #[.pointer (some ⟨P.cp,0,none⟩)] w λe w'=>e=.returned (.tuple #[.int .u64 (M.clo:Int),.bool (!decide ((M.clo:Int)=0))])/\w'=w:=by
 have TL:=hid (qe7 P.cp 2 (M.clo:Int) w h.clk.1.c2 h.clk.1.lt);have hlc:=h.clk.1.lt;clear h;go_enter func145,ntmps145;go_wp2_with fail;refine TL.out.mono ?_;rintro e w1⟨rfl,he⟩;rw[he];clear he;go_wp2_with fail;go_ret2;exact⟨rfl,rfl⟩
theorem qDs(h:qa6 g w a P M)(h1:1<M.D.length)(hv:M.clo<18446744073709551616):Calls prog 264 #[.pointer (some ⟨P.cp,0,none⟩),.pointer (some ⟨P.dp,0,none⟩)] w (qDj a P {M with D:=M.D.set 1 (M.D[1].over 0 (qc3 M.clo)),step:=qC9 314 P.cp} 3 g w):=by
 have TL:=hid (qe7 P.cp 2 (M.clo:Int) w h.clk.1.c2 h.clk.1.lt);have TC:=hid (qqu M.clo w hv);have H:=hid h;have hlc:=h.clk.1.lt;have hmf:∀(fn:Fn) (first cap:Array Value) (W:World),(Instr.makeFunc fn first cap).run prog W=.ok (.func fn first cap) W:=λ_ _ _ _=>rfl
 have hsf:=qCg;have hL:=qc7 M.clo;clear h;go_enter func264,ntmps264;go_wp2_with fail;refine TL.out.mono ?_;rintro e w1⟨rfl,he⟩;rw[he];clear he TL;go_wp2_with fail;refine TC.out.mono ?_;rintro e w2⟨x,rfl,b,rfl,hrow,hb,hb2⟩;have ha2:=H.out.below hb2;have HX2:=hid (Ext.below (g:=g) hb2);have TS:=qh7 w2 0 P.dp P.dc M.D ha2.dev.2.1 1 0 h1 (qc3 M.clo) (some ⟨b,0,none⟩) 64 hrow.arr0 (by intro h;rw[h]at hL;cases hL) (by rw[hL];decide) (by rw[hL];decide);rw[hL]at TS;have HTS:=hid TS;have H2:=hid ha2;clear TS TC hrow hb2 ha2;go_wp2_with fail;refine HTS.out.mono ?_;rintro e w3⟨rfl,hd,ho⟩;obtain⟨g3,ha3,hx3⟩:=qE9 H2.out hd ho;have H3:=hid ha3;have HX3:=hid (HX2.out.trans hx3);have c520:=ha3.clk.1.c520;have fr:=ha3.clk.1.fr 520;have hl3:=ha3.clk.1.lt;clear hd ho ha3 hx3 HTS;go_wp2_with fail;go_ret;exact⟨rfl,ATo.trans HX3.out (H3.out.setStep _)⟩
end
theorem qC8:(prog.info? 147).map (·.size)=some 258:=by kernel_rfl
theorem qE6(L:List Bool)(hL:L.length=258){i:Nat}(hi:i<L.length)(W:World):(Instr.index 147 (.agg (qx5 L).toArray) (.int .i64 (i:Int))).run prog W=.ok (.bool L[i]) W:=by
 have hu:=underlying147;have hx:(qx5 L).toArray[i]? =some (.bool L[i]):=by rw[List.getElem?_toArray];unfold qx5;rw[List.getElem?_map,List.getElem?_eq_getElem hi];rfl
 have hz:(sizeOf 4).run prog W=.ok 1 W:=by kernel_rfl
 have hag:(isAgg 4).run prog W=.ok false W:=by kernel_rfl
 rw[List.getElem?_toArray]at hx;simp[Instr.index,run_underlying hu,asIntOf,part,go_sem,hz];rw[if_pos (by omega),hx];rfl
theorem qCo{w:World}{lo p oc now dur clo:Nat}{owed:List Int}{noted left:List Bool}{step:Value}(h:qbi w lo p oc now dur clo owed noted left step):w.rangeAt p 262 (qx5 left):=λj v hv=>by
 rw[cell_of_row w p (262+j) _ _ _ h.box,List.getElem?_toArray]
 have hj:=(List.getElem?_eq_some_iff.1 hv).1
 have hn:=h.len
 unfold clkC
 rw[List.getElem?_append_left (by simp[qx5,hn.2.2.1]at hj ⊢;omega),List.getElem?_append_right (by simp[qx5,hn.2.2.1])]
 rw[<-hv]
 congr 1
 simp[qx5,hn.2.2.1]
theorem qEc{now dur clo oc n:Nat}{noted left:List Bool}{step:Value}(hn:noted.length=258){i:Nat}(hi:i<left.length)(v:Bool):(clkC now dur clo oc n noted left step).set (262+i) (.bool v)=clkC now dur clo oc n noted (left.set i v) step:=by
 unfold clkC qx5;rw[List.set_append_left _ _ (by simp[hn];omega),List.set_append_right _ _ (by simp[hn]),List.map_set];simp[hn]
theorem qbi.setLeft{w:World}{lo p oc now dur clo:Nat}{owed:List Int}{noted left:List Bool}{step:Value}(h:qbi w lo p oc now dur clo owed noted left step){i:Nat}(hi:i<258)(v:Bool):qbi (w.setCell ⟨p,262+i,none⟩ (.bool v)) lo p oc now dur clo owed noted (left.set i v) step:=by
 refine⟨?_,(Below.heap_setCell _ _ _ _ (Ne.symm h.lo.2.2)).trans h.rows,h.lo,by rw[List.length_set];exact h.len⟩;rw[heap_setCell_same w p (262+i) _ _ (.bool v) h.box,List.setIfInBounds_toArray,qEc h.len.2.2.1 (by rw[h.len.2.2.2];exact hi)]
theorem qEq(w:World)(lo p dc:Nat)(D:List qab)(h:qbb w lo p dc D)(i:Int)(hi:i<0\/(D.length:Int)<=i):Calls prog 107 #[.pointer (some ⟨p,0,none⟩),.int .i64 i] w λe w'=>e=.returned (.int .i64 2)/\w'=w:=by
 have T0:=hid (qvc w lo p dc D h i hi 0 0);clear h;go_enter func107,ntmps107;go_wp2_with fail;refine T0.out.mono ?_;rintro e w1⟨rfl,he⟩;rw[he];go_wp2_with fail;go_ret;exact⟨rfl,rfl⟩
end
section
open Go.RowKit
section
variable {g:Own8}{w w':World}{a:Nat}{P:qag}{M:qa4}
def FlR(P:qag)(M:qa4)(act:Int)(M':qa4):Prop:=
 (act=1/\∃(L:List Bool) (D:List qab),D.length=M.D.length/\M'= {M with left:=L,D:=D})\/(act=2/\∃D:List qab,D.length=M.D.length/\M'= {M with D:=D,step:=qC9 264 P.cp})
def qFg(a:Nat)(P:qag)(M:qa4)(g:Own8)(w:World)(e:Ending)(w':World):Prop:=∃act M',e=.returned (.int .i64 act)/\FlR P M act M'/\ATo g w w' a P M'
theorem qDt(h:qa6 g w a P M):Calls prog 207 #[.pointer (some ⟨P.cp,0,none⟩),.pointer (some ⟨P.dp,0,none⟩)] w (qFg a P M g w):=by
 have hclk:=h.clk.1;have HRG:=hid (qCo hclk);have hlc:=hclk.lt;have hll:=hclk.len.2.2.2;have HSZ:=hid (show(prog.info? 147).map (·.size)=some (qx5 M.left).length by unfold qx5;rw[List.length_map,hll];exact qC8);have HIX:=hid (λi hi W=>qE6 M.left hll (i:=i) hi W);have TN:=hid (qta w 0 P.dp P.dc M.D h.dev.2.1);have H:=hid h;have hmf:∀(fn:Fn) (first cap:Array Value) (W:World),(Instr.makeFunc fn first cap).run prog W=.ok (.func fn first cap) W:=λ_ _ _ _=>rfl
 have hsf:=qCg;have HCK:=hid hclk;clear h hclk;go_enter func207,ntmps207;go_wp2_with(refine wpList_load_mid rfl 147 (.tmp 9) rfl P.cp 262 (by first|rfl|simp[Act.eval]) _ _ HRG.out underlying147 rfl HSZ.out ?_);obtain⟨L,hL⟩:∃L,L=M.left:=⟨_,rfl⟩;rw[<-hL]at HIX hll ⊢;generalize qx5 L=LC at *;clear HRG HSZ hL;go_loopw [5,6,11] (λv5 v6 v11 wr=>∃k:Nat,k<=258/\v11=.int .i64 k/\wr=w) (λ_ _ v11 _=>258-(intOf v11).toNat)
 case atStart=>exact⟨0,Nat.zero_le _,rfl,rfl⟩
 case round =>
  obtain⟨k,hk,rfl,hwr⟩:=hrel;rw[hwr];clear hwr;by_cases hlt:k<258
  · have hki:(k:Int)<258:=by omega
    have hk0:(0:Int)<=(k:Int):=by omega
    have hix:=HIX.out k (by omega);rcases Bool.eq_false_or_eq_true (L[k]'(by omega))with hb|hb
    · rw[hb]at hix
      have hkl:k<M.left.length:=by rw[HCK.out.len.2.2.2];exact hlt
      have ck:w.cell? ⟨P.cp,262+k,none⟩=some (.bool M.left[k]):=qCo HCK.out k _ (by unfold qx5;rw[List.getElem?_map,List.getElem?_eq_getElem hkl];rfl);have fk:=HCK.out.fr (262+k);obtain⟨g1,ha1,hx1⟩:=H.out.setClk (qCb H.out (262+k) (.bool false)) (HCK.out.setLeft hlt false);generalize hw1:w.setCell ⟨P.cp,262+k,none⟩ (.bool false)=w1 at ha1 hx1;have HW1:=hid hw1;have H1:=hid ha1;have HX1:=hid hx1;clear hw1 hx1 HIX TN;by_cases hD:k<M.D.length
      · have TF:=hid (qlw w1 0 P.dp P.dc M.D ha1.dev.2.1 k hD)
        clear ha1;go_wp2_with fail;rw[HW1.out];refine TF.out.mono ?_;rintro e w2⟨rfl,hd,ho⟩;obtain⟨g2,ha2,hx2⟩:=qE9 H1.out hd ho;go_wp2_with fail;go_ret;exact⟨1,_,rfl,.inl ⟨rfl,_,_,List.length_set,rfl⟩,g2,ha2,HX1.out.trans hx2⟩
      · have TF:=hid (qEq w1 0 P.dp P.dc M.D ha1.dev.2.1 (k:Int) (by omega))
        clear ha1;go_wp2_with fail;rw[HW1.out];refine TF.out.mono ?_;rintro e w2⟨rfl,he⟩;rw[he];go_wp2_with fail;go_ret;exact⟨1,_,rfl,.inl ⟨rfl,_,M.D,rfl,rfl⟩,g1,H1.out,HX1.out⟩
    · rw[hb]at hix
      go_wp2_with fail;exact⟨⟨k+1,by omega,by go_num,trivial⟩,by show 258-((k:Int)+1).toNat<258-(k:Int).toNat;omega⟩
  · have hki:¬(k:Int)<258:=by omega
    go_wp2_with fail;refine TN.out.mono ?_;rintro e w2⟨rfl,hd,ho⟩;obtain⟨g2,ha2,hx2⟩:=qE9 H.out hd ho;have H2:=hid ha2;have HX2:=hid hx2;have c520:=ha2.clk.1.c520;have fr:=ha2.clk.1.fr 520;have hl2:=ha2.clk.1.lt;clear hd ho ha2 hx2 TN HIX;go_wp2_with fail;go_ret;obtain⟨g3,ha3,hx3⟩:=H2.out.setStep (qC9 264 P.cp);exact⟨2,_,rfl,.inr ⟨rfl,M.D.map qab.fence,List.length_map _,rfl⟩,g3,ha3,HX2.out.trans hx3⟩
end
end
section
open Go.RowKit
def qD1(P:qag)(v:Value):Prop:=v=qC9 207 P.cp\/v=qC9 264 P.cp\/v=qC9 314 P.cp\/v=qC9 352 P.cp
def ClR(P:qag)(M M':qa4):Prop:=∃(L:List Bool) (D:List qab) (dur clo:Nat) (st:Value),M'= {M with left:=L,D:=D,dur:=dur,clo:=clo,step:=st}/\D.length=M.D.length/\((clo=M.clo/\dur=M.dur/\qD1 P st)\/(clo=0/\dur=M.clo))
def qFh(a:Nat)(P:qag)(M:qa4)(g:Own8)(w:World)(e:Ending)(w':World):Prop:=∃(act:Int) (M':qa4),e=.returned (.tuple #[.int .i64 act,.int .i64 0])/\ClR P M M'/\ATo g w w' a P M'
section
variable {g:Own8}{w w':World}{a:Nat}{P:qag}{M:qa4}
theorem qEe(h:qa6 g w a P M)(hc:¬M.clo=0)(hv:M.clo<18446744073709551616)(h1:1<M.D.length)(hst:qD1 P M.step):Calls prog 146 #[.pointer (some ⟨P.cp,0,none⟩),.pointer (some ⟨P.dp,0,none⟩)] w (qFh a P M g w):=by
 have TL:=hid (qe7 P.cp 2 (M.clo:Int) w h.clk.1.c2 h.clk.1.lt);have c520:=h.clk.1.c520;have hlc:=h.clk.1.lt;have hd:decide ((M.clo:Int)=0)=false:=decide_eq_false (by omega);have H:=hid h;have HV:=hid hv;have H1:=hid h1;clear h;rcases hst with hs|hs|hs|hs
 · rw[hs]at c520
   unfold qC9 at c520;go_enter func146,ntmps146;go_wp2_with fail;refine TL.out.mono ?_;rintro e w1⟨rfl,he⟩;rw[he];clear he;go_wp2_with fail;refine(qDt H.out).mono ?_;rintro e w2⟨act,M',rfl,hfl,hto⟩;go_wp2_with fail;go_ret2;rcases hfl with⟨rfl,L,D,hD,rfl⟩|⟨rfl,D,hD,rfl⟩
   · exact⟨_,_,rfl,⟨L,D,M.dur,M.clo,M.step,rfl,hD,.inl ⟨rfl,rfl,.inl hs⟩⟩,hto⟩
   · exact⟨_,_,rfl,⟨M.left,D,M.dur,M.clo,_,rfl,hD,.inl ⟨rfl,rfl,.inr (.inl rfl)⟩⟩,hto⟩
 · rw[hs]at c520
   unfold qC9 at c520;go_enter func146,ntmps146;go_wp2_with fail;refine TL.out.mono ?_;rintro e w1⟨rfl,he⟩;rw[he];clear he;go_wp2_with fail;refine(qDs H.out H1.out HV.out).mono ?_;rintro e w2⟨rfl,hto⟩;go_wp2_with fail;go_ret2;exact⟨_,_,rfl,⟨M.left,_,M.dur,M.clo,_,rfl,List.length_set,.inl ⟨rfl,rfl,.inr (.inr (.inl rfl))⟩⟩,hto⟩
 · rw[hs]at c520
   unfold qC9 at c520;go_enter func146,ntmps146;go_wp2_with fail;refine TL.out.mono ?_;rintro e w1⟨rfl,he⟩;rw[he];clear he;go_wp2_with fail;refine(qEf H.out H1.out).mono ?_;rintro e w2⟨rfl,hto⟩;go_wp2_with fail;go_ret2;exact⟨_,_,rfl,⟨M.left,_,M.dur,M.clo,_,rfl,List.length_set,.inl ⟨rfl,rfl,.inr (.inr (.inr rfl))⟩⟩,hto⟩
 · rw[hs]at c520
   unfold qC9 at c520;go_enter func146,ntmps146;go_wp2_with fail;refine TL.out.mono ?_;rintro e w1⟨rfl,he⟩;rw[he];clear he;go_wp2_with fail;refine(qEs H.out).mono ?_;rintro e w2⟨rfl,hto⟩;go_wp2_with fail;go_ret2;exact⟨_,_,rfl,⟨M.left,_,_,_,_,rfl,List.length_map _,.inr ⟨rfl,rfl⟩⟩,hto⟩
end
end
section
open Go.RowKit
theorem Own.cutK{α:Type}{enc:α->List Value}{e:TypeId}{k:Nat}(hk:∀x,(enc x).length=k){w:World}{lo:Nat}{b off c:Nat}{l:List α}(h:Own enc e k w lo (some ⟨b,off,none⟩) c l){i:Nat}(hi:i<=l.length)(hc0:0<c)(vs:List Value)(hvs:i*k+vs.length<=c*k):
 Own enc e k (w.setCells b (off+i*k) vs) lo (some ⟨b,off,none⟩) c (l.take i):=by
 obtain⟨h1,h2,h3⟩:=h;rcases h3 with h3|⟨b',off',cur,hA,hlo,hh,hs,hc⟩
 · omega
 cases hA
 obtain⟨cur',g1,g2,g3,g4,g5⟩:=qax vs (off+i*k) w cur hh (by omega);refine⟨by rw[List.length_take];omega,h2,.inr ⟨b,off,cur',rfl,hlo,g1,by omega,λj u hu=>?_⟩⟩;have hlt:=(List.getElem?_eq_some_iff.1 hu).1;rw[qao hk,List.length_take,Nat.min_eq_left hi]at hlt;rw[qf8 hk,List.getElem?_take_of_lt (by omega)]at hu;rw[g3 _ (by omega)];exact hc j u hu
theorem Own.takeK{α:Type}{enc:α->List Value}{e:TypeId}{k:Nat}(hk:∀x,(enc x).length=k){w:World}{lo c:Nat}{A:Option Addr}{l:List α}(h:Own enc e k w lo A c l)(i:Nat):Own enc e k w lo A c (l.take i):=by
 refine⟨by have:=h.1;rw[List.length_take];omega,h.2.1,?_⟩;rcases h.2.2 with h0|⟨b,off,cur,hA,hlo,hh,hs,hc⟩
 · exact .inl h0
 · refine .inr ⟨b,off,cur,hA,hlo,hh,hs,λj u hu=>hc j u ?_⟩
   rw[qf8 hk]at hu;rw[List.getElem?_take]at hu;split at hu
   · exact hu
   · cases hu
def qEj(lo:Nat)(A:Option Addr)(c n:Nat)(l':List EntC)(w:World)(e:Ending)(w':World):Prop:=
 e=.returned (.slice A n c)/\Own EntC.enc 334 5 w' lo A c l'/\w.grownBy w' (qa8 A c)
theorem qF9(l:List EntC)(n b off c lo i:Nat)(w:World)(own:Own EntC.enc 334 5 w lo (some ⟨b,off,none⟩) c l)(hn:l.length=n+1)(hi:i<=n):
 Calls prog 317 #[.slice (some ⟨b,off,none⟩) (n+1) c,.int .i64 i,.int .i64 (i+1)] w (qEj lo (some ⟨b,off,none⟩) c n (l.take i++l.drop (i+1)) w):=by
 obtain⟨i0,hi0,hz0,hz1,hz2⟩:=info_parts qj2;have hmax:=own.max;have hlen:=own.len;rw[hn]at hlen;have e1:(l.take i).length=i:=by rw[List.length_take];omega
 have e2:(l.drop (i+1)).length=n-i:=by rw[List.length_drop];omega
 have harr:Arr EntC.enc 5 w w.heap.size (if c=i+1 then some ⟨b,off,none⟩else some ⟨b,off+(i+1)*5,none⟩) (l.drop (i+1)):=by
  have:=(own.arr EntC.enc_len).drop (m:=i+1) (c:=c) (by omega) (by omega);simpa[Addr.add_lit]using this
 obtain⟨w1,hr,hown1,hgr1,hsz1⟩:=qju (P:=prog) w.drew 224 224 i0 underlying224 hi0 hz1 (by decide) EntC.enc_len EntC.enc_one ((own.takeK EntC.enc_len i).drew) (show Arr EntC.enc 5 w.drew w.heap.size _ _ from harr) (c-(i+1)) (by omega);rw[e1,e2,show i+(n-i)=n by omega]at hr;have hl':(l.take i++l.drop (i+1)).length=n:=by rw[List.length_append,e1,e2];omega
 have hclr:∀ty cc,(Builtin.clear_ #[224] ty #[.slice (some ⟨b,off+n*5,none⟩) 1 cc]).run prog w1=.ok (.tuple #[]) (w1.setCells b (off+n*5) (Builtin.zeroCells (Value.cells (.agg #[.int .i64 0,.int .i64 0,.int .u64 0,.int .u64 0,.int .i64 0])) 1).toList):=λty cc=>by
  obtain⟨b',off',cur,hA,_,hh,hs,_⟩:∃b' off' cur,(some (⟨b,off,none⟩:Addr))=some ⟨b',off',none⟩/\lo<=b'/\w1.heap[b']? =some (.cells cur 334 (0,0))/\off'+c*5<=cur.size/\True:=by
   rcases hown1.2.2 with h0|⟨b',off',cur,h1,h2,h3,h4,_⟩
   · omega
   · exact⟨b',off',cur,h1,h2,h3,h4,trivial⟩
  cases hA
  refine qn2 w1 _ 334 ty _ underlying224 (λw=>by simp[zeroValue,typeInfo,hi0,hz0]) (by intro v hv;simp[Value.cells]at hv;rcases hv with rfl|rfl|rfl|rfl|rfl <;> rfl) b (off+n*5) 1 cc (by omega) (λq hq=>?_) (λq _=>frozen_of_row w1 b _ _ _ hh);simp[Value.cells]at hq;rw[cell_of_row w1 b _ _ _ _ hh,Array.getElem?_eq_getElem (by omega)];rfl
 have hfin:Own EntC.enc 334 5 (w1.setCells b (off+n*5) (Builtin.zeroCells (Value.cells (.agg #[.int .i64 0,.int .i64 0,.int .u64 0,.int .u64 0,.int .i64 0])) 1).toList) lo (some ⟨b,off,none⟩) c (l.take i++l.drop (i+1)):=by
  have:=hown1.cutK EntC.enc_len (i:=n) (by omega) (by omega) (Builtin.zeroCells (Value.cells (.agg #[.int .i64 0,.int .i64 0,.int .u64 0,.int .u64 0,.int .i64 0])) 1).toList (by simp[Builtin.zeroCells,Value.cells];omega);rwa [List.take_of_length_le (by omega)]at this
 have hgf:w.grownBy (w1.setCells b (off+n*5) (Builtin.zeroCells (Value.cells (.agg #[.int .i64 0,.int .i64 0,.int .u64 0,.int .u64 0,.int .i64 0])) 1).toList) (qa8 (some ⟨b,off,none⟩) c):=by
  rw[qa8,if_neg (by omega)];exact qnk (show w.grownBy w1 (some b)from⟨hgr1.os,hgr1.tape,hgr1.output,hgr1.size,hgr1.block⟩) (qb4 b _ _ w1)
 have HR:=hid hr;have HCLR:=hid hclr;have HF:=hid hfin;have HG:=hid hgf;clear hr hclr hfin hgf hown1 hgr1 hsz1 harr hi0 hz0 hz1 hz2 own e1 e2 hl' hn;have hz:¬((i:Int)=(i:Int)+1):=by omega
 have hw1:IntKind.i64.wrap ((i:Int)+1)=(i:Int)+1:=by rw[IntKind.wrap_i64];omega
 have htn:((i:Int)+1).toNat=i+1:=by omega
 have hb3:(i:Int)+1<=(n:Int)+1:=by omega
 have hcn:¬(c=n):=by omega
 have hic:i<=c:=by omega
 have hjc:i+1<=c:=by omega
 have hin:i<=n:=hi;have hii:(i:Int)<=(i:Int)+1:=by omega
 have h0i:(0:Int)<=(i:Int)+1:=by omega
 by_cases hci:c=i+1
 · obtain rfl:i=n:=by omega
   rw[if_pos hci]at HR;subst hci;simp only[Nat.sub_self]at HR;go_enter func317,ntmps317;go_wp2_with fail;go_region_law (refine qep rfl (.tmp 22) (.tmp 25) 224 224 rfl (.slice (some ⟨b,off,none⟩) i (i+1)) (.slice (some ⟨b,off,none⟩) 0 0) (by simp[Act.eval,Act.put]) (by simp[Act.eval,Act.put]) HR.out ?_);all_goals go_wp2_with(refine qdz _ rfl (.tmp 31) 224 rfl (.slice (some ⟨b,off+i*5,none⟩) 1 1) (by simp[Act.eval]) (HCLR.out _ _) ?_)
   all_goals go_ret
   all_goals exact⟨rfl,HF.out,HG.out⟩
 · rw[if_neg hci]at HR
   go_enter func317,ntmps317;go_wp2_with fail;go_region_law (refine qep rfl (.tmp 22) (.tmp 25) 224 224 rfl (.slice (some ⟨b,off,none⟩) i c) (.slice (some ⟨b,off+(i+1)*5,none⟩) (n-i) (c-(i+1))) (by simp[Act.eval,Act.put]) (by simp[Act.eval,Act.put]) HR.out ?_);all_goals go_wp2_with(refine qdz _ rfl (.tmp 31) 224 rfl (.slice (some ⟨b,off+n*5,none⟩) 1 (c-n)) (by simp[Act.eval]) (HCLR.out _ _) ?_)
   all_goals go_ret
   all_goals exact⟨rfl,HF.out,HG.out⟩
end
end Go.Proofs.YtecikkjbnkhhkaaGreat
