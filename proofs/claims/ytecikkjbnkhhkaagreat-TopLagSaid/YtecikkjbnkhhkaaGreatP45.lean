/- A part of the walk. -/
import Derived.Test.YtecikkjbnkhhkaaGreatP42
import Derived.RangeFuncNested
namespace Go.Proofs.YtecikkjbnkhhkaaGreat
open _root_.Go.Proofs.Tryz
set_option maxHeartbeats 2000000
set_option maxRecDepth 100000
section
open Go.RowKit
section
variable {w:World}{lo p rc now:Nat}{H:List Nat}
theorem qD5(h:RdAt w lo p rc now H)(t:Nat)(ht:t<H.length):Calls prog 384 #[.pointer (some ⟨p,0,none⟩),.int .i64 (t:Int)] w λe w'=>e=.returned (.tuple #[.int .u64 (H[t]:Int),.bool (!decide ((H[t]:Int)=0))])/\w'=w:=by
 have T1:=hid (qfl w lo p rc now H h t ht);obtain⟨c,fz,hl⟩:=h.cell ht;have T2:=hid (qe7 rc t (H[t]:Int) w c hl);clear h c;go_enter func384,ntmps384;go_wp2_with fail;refine T1.out.mono ?_;rintro e w1⟨rfl,he⟩;rw[he];clear he;go_wp2_with fail;refine T2.out.mono ?_;rintro e w2⟨rfl,he⟩;rw[he];clear he;go_wp2_with fail;go_ret2;exact⟨rfl,rfl⟩
def qFd(w:World)(e:Ending)(w':World):Prop:=∃(n:Nat) (b:Bool),e=.returned (.tuple #[.int .u64 (n:Int),.bool b])/\w'=w
theorem qDm(h:RdAt w lo p rc now H):Calls prog 370 #[.pointer (some ⟨p,0,none⟩)] w (qFd w):=by
 have TI:=hid (λt ht=>qD5 h t ht);have c1:w.cell? ⟨p,1,none⟩=some (.slice (some ⟨rc,0,none⟩) H.length H.length):=cell_of_row w p 1 _ _ _ h.box;have hl:=qa0 h.box;have h4:=h.len.2;clear h;go_enter func370,ntmps370;go_wp2_with fail;go_loopw [4,5,16] (λv4 v5 v16 wr=>∃(k n:Nat) (b:Bool),k<=H.length/\v4=.int .u64 (n:Int)/\v5=.bool b/\v16=.int .i64 k/\wr=w) (λ_ _ v16 _=>H.length-(intOf v16).toNat)
 case atStart=>exact⟨0,0,false,Nat.zero_le _,rfl,rfl,rfl,rfl⟩
 case round =>
  obtain⟨k,n,b,hk,rfl,rfl,rfl,hwr⟩:=hrel;rw[hwr];clear hwr;by_cases hlt:k<H.length
  · have hki:(k:Int)<(H.length:Int):=by omega
    have T1:=hid (TI.out k hlt);obtain⟨x,hx⟩:∃x,x=H[k]:=⟨_,rfl⟩;rw[<-hx]at T1;clear hx;go_wp2_with fail;refine T1.out.mono ?_;rintro e w1⟨rfl,he⟩;rw[he];clear he;by_cases h0:(x:Int)=0
    · have d0:decide ((x:Int)=0)=true:=decide_eq_true h0
      go_wp2_with fail;exact⟨⟨k+1,n,b,by omega,rfl,rfl,by go_num,trivial⟩,by show H.length-((k:Int)+1).toNat<H.length-(k:Int).toNat;omega⟩
    · have d0:decide ((x:Int)=0)=false:=decide_eq_false h0
      cases b with
      |false =>
       go_wp2_with fail;exact⟨⟨k+1,x,true,by omega,rfl,rfl,by go_num,trivial⟩,by show H.length-((k:Int)+1).toNat<H.length-(k:Int).toNat;omega⟩
      |true =>
       by_cases hxn:(x:Int)<(n:Int)
       · have d1:decide ((x:Int)<(n:Int))=true:=decide_eq_true hxn
         go_wp2_with fail;exact⟨⟨k+1,x,true,by omega,rfl,rfl,by go_num,trivial⟩,by show H.length-((k:Int)+1).toNat<H.length-(k:Int).toNat;omega⟩
       · have d1:decide ((x:Int)<(n:Int))=false:=decide_eq_false hxn
         go_wp2_with fail;exact⟨⟨k+1,n,true,by omega,rfl,rfl,by go_num,trivial⟩,by show H.length-((k:Int)+1).toNat<H.length-(k:Int).toNat;omega⟩
  · have hki:¬(k:Int)<(H.length:Int):=by omega
    go_wp2_with fail;go_ret2;exact⟨n,b,rfl,rfl⟩
def qFc(w:World)(e:Ending)(w':World):Prop:=∃b:Bool,e=.returned (.bool b)/\w'=w
theorem qDl(h:RdAt w lo p rc now H)(x:Nat):Calls prog 354 #[.pointer (some ⟨p,0,none⟩),.int .u64 (x:Int)] w (qFc w):=by
 have TL:=hid (qDm h);clear h;go_enter func354,ntmps354;go_wp2_with fail;refine TL.out.mono ?_;rintro e w1⟨n,b,rfl,he⟩;rw[he];clear he;cases b with
 |false =>
  go_wp2_with fail;go_ret;exact⟨true,rfl,rfl⟩
 |true =>
  go_wp2_with fail;go_ret;exact⟨_,rfl,rfl⟩
end
section
variable {g:Own8}{w:World}{a:Nat}{P:qag}{M:qa4}
def qEx(a:Nat)(P:qag)(M:qa4)(g:Own8)(w:World)(e:Ending)(w':World):Prop:=(∃v,e=.returned v)/\ATo g w w' a P {M with rnow:=M.rnow+1}
theorem qCy(h:qa6 g w a P M)(hn:M.rnow<=1000000):Calls prog 209 #[.pointer (some ⟨P.rp,0,none⟩)] w (qEx a P M g w):=by
 obtain⟨q1,q2,q3⟩:=h.rd;have c0:w.cell? ⟨P.rp,0,none⟩=some (.int .u64 (M.rnow:Int)):=cell_of_row w P.rp 0 _ _ _ q1.box;have hl:=qa0 q1.box;have TA:=hid (qpb P.rp 0 (M.rnow:Int) 1 w c0 (frozen_of_row w P.rp 0 _ _ q1.box) hl);have hwn:IntKind.u64.wrap ((M.rnow:Int)+1)=((M.rnow+1:Nat):Int):=by rw[IntKind.wrap_u64];omega
 rw[hwn]at TA;have hr:RdAt (w.setCell ⟨P.rp,0,none⟩ (.int .u64 ((M.rnow+1:Nat):Int))) 0 P.rp P.rc (M.rnow+1) M.H:=
  ⟨qay q1.box 0 _,(Below.heap_setCell _ _ _ _ (Ne.symm q1.lo.2.2)).trans q1.rows,q1.lo,q1.len,by have:=q1.now1;omega⟩
 have HT:=hid (h.setRd ((Only.refl _ w).setCell _ _ (.inl q2)) hr);clear h q1 q2 q3 hr hwn c0;go_enter func209,ntmps209;go_wp2_with fail;refine TA.out.mono ?_;rintro e w1⟨rfl,he⟩;rw[he];clear he;go_wp2_with fail;go_ret;exact⟨⟨_,rfl⟩,HT.out⟩
end
end
section
open Go.RowKit
attribute [local go_sem] Oper.semAt_some
theorem qDw(w:World)(p:Nat)(A:Option Addr)(n c:Nat)(p0:w.cell? ⟨p,0,none⟩=some (.slice A n c)):Calls prog 369 #[.pointer (some ⟨p,0,none⟩)] w λe w'=>e=.returned (.int .i64 n)/\w'=w:=by
 go_enter func369,ntmps369;go_wp2;go_ret;exact⟨rfl,rfl⟩
theorem qD9(p:Nat)(w:World):Calls prog 353 #[.pointer (some ⟨p,0,none⟩)] w λe w'=>e=.returned (.func (.func 368) #[] #[.pointer (some ⟨w.heap.size,0,none⟩)])/\w'=w.alloc (.cells #[.pointer (some ⟨p,0,none⟩)] 117):=by
 go_enter func353,ntmps353;go_wp2;go_ret;exact⟨rfl,rfl⟩
def e0:EntC:=⟨0,0,0,0,0⟩
def ixs(L:List EntC)(k:Nat):List (Nat×EntC):=(List.range k).map λj=>(j,L[j]?.getD e0)
theorem qCt(L:List EntC)(k:Nat):ixs L (k+1)=ixs L k++[(k,L[k]?.getD e0)]:=by simp[ixs,List.range_succ]
theorem qF6(L:List EntC)(k:Nat):(ixs L k).length=k:=by simp[ixs]
def qCl(n₀:Nat)(W:World)(p:Nat)(L:List EntC):Prop:=∃A c,p<n₀/\W.cell? ⟨p,0,none⟩=some (.slice A L.length c)/\Arr EntC.enc 5 W n₀ A L/\L.length<=c
theorem qCl.below{n₀:Nat}{A B:World}{p:Nat}{L:List EntC}(h:Below n₀ A B):qCl n₀ A p L->qCl n₀ B p L
 |⟨a,c,hp,hc,ha,hl⟩=>⟨a,c,hp,(h.cell (p:=⟨p,0,none⟩) hp).trans hc,ha.below h,hl⟩
theorem qDa(n:Nat)(hn:1<=n)(l Bn n₀ p:Nat)(L:List EntC)(J Jx:List (Nat×EntC)->World->Prop)(hL:L.length<=100000)
 (hY:∀pre x W,J pre W->pre.length<L.length->YieldAt Fence.wide (n-1) prog l #[.int .i64 (x.1:Int),x.2.val] W λe W' =>
  (e=.returned (.bool true)/\J (pre++[x]) W'/\Below n₀ W W')\/(e=.returned (.bool false)/\Jx (pre++[x]) W'))
 (W:World) (hBl:Bn<n₀) (hBn:W.cell? ⟨Bn,0,none⟩=some (.pointer (some ⟨p,0,none⟩))) (hB:qCl n₀ W p L) (h0:J [] W):
 CallsIn Fence.wide n prog 368 #[.func (.yield l) #[] #[],.pointer (some ⟨Bn,0,none⟩)] W λe W'=>(∃v,e=.returned v) /\
  ((∃ys,ys=ixs L L.length/\J ys W')\/(∃pre,(∃k,k<=L.length/\pre=ixs L k)/\Jx pre W')):=by
 refine callsIn_of_wp func368 rfl trivial ?_ rfl;simp only[ntmps368,List.size_toArray,List.length_cons,List.length_nil,Nat.reduceAdd,Nat.reduceSub,Array.replicate_succ,Array.replicate_zero,List.push_toArray,List.append_toArray,List.nil_append,List.cons_append];obtain⟨A,c,hp,hc,ha,hlc⟩:=hB;have TL:=qDw W p A _ c hc;gi_wp2_with (refine⟨trivial,?_⟩;gi_at_call 369;refine(callsIn_wide.2 TL).mono ?_;rintro e w1⟨rfl,he⟩;rw[he];clear he);clear TL;gi_loopw [6] (λi wr=>∃k:Nat,k<=L.length/\i=.int .i64 k/\J (ixs L k) wr/\Below n₀ W wr)
  (λi _=>L.length-(intOf i).toNat)
 case atStart=>exact⟨0,Nat.zero_le _,rfl,h0,Below.refl _ _⟩
 case round =>
  obtain⟨k,hk,rfl,hJs,hnx⟩:=hrel;have hB':=(hnx.cell (p:=⟨Bn,0,none⟩) hBl).trans hBn;have hc':=(hnx.cell (p:=⟨p,0,none⟩) hp).trans hc;have ha':=ha.below hnx;by_cases hlt:k<L.length
  · have hki:(k:Int)<(L.length:Int):=by omega
    obtain⟨fn,tmps,assign,body,hy,hR⟩:=hY _ (k,L[k]?.getD e0) wr hJs (by rw[qF6];exact hlt);have hg:L[k]?.getD e0=L[k]:=by rw[List.getElem?_eq_getElem hlt];rfl
    rw[hg]at hy;dsimp only at hy;rcases ha' with rfl|⟨b,off,rfl,hb,hcs⟩
    · cases hlt
    obtain⟨x,hx⟩:∃x,x=L[k]:=⟨_,rfl⟩;have hxc:=hcs k hlt;rw[<-hx]at hy hxc;have x0:=hxc 0 _ rfl;have x1:=hxc 1 _ rfl;have x2:=hxc 2 _ rfl;have x3:=hxc 3 _ rfl;have x4:=hxc 4 _ rfl;have HL:=hid hL;have HX:=hid hx;unfold EntC.val EntC.enc at hy;simp only[Nat.add_zero]at x0;clear hxc hcs hg hY hc ha hBn hJs hx;gi_wp2;refine hR.mono ?_;rintro e W3 (⟨rfl,hJ3,hk3⟩|⟨rfl,hJx3⟩)
    · gi_wp2
      go_roundw
      case rel=>exact⟨k+1,by omega,by simp,by rw[qCt];exact hJ3,hnx.trans hk3⟩
      case measure=>simp[intOf];omega
    · gi_wp2
      refine bodyPost_ret (results_none rfl _ _ _) rfl ?_;exact⟨⟨_,rfl⟩,.inr ⟨_,⟨k+1,by omega,(qCt _ _).symm⟩,hJx3⟩⟩
  · obtain rfl:k=L.length:=by omega
    gi_wp2;go_end0;exact⟨⟨_,rfl⟩,.inl ⟨_,rfl,hJs⟩⟩
end
section
open Go.RowKit
attribute [local go_sem] Oper.semAt_some
theorem qCv(n:Nat)(hn:1<=n)(Bn n₀ p:Nat)(L:List EntC)(hL:L.length<=100000)(w:World)(h1:Bn<n₀)(hn₀:n₀<=w.heap.size)(hBn:w.cell? ⟨Bn,0,none⟩=some (.pointer (some ⟨p,0,none⟩)))(hB:qCl n₀ w p L):
 SeqStopsK Fence.wide n prog 368 #[.pointer (some ⟨Bn,0,none⟩)] (λx:Nat×EntC=> #[Value.int .i64 (x.1:Int),x.2.val]) (Below n₀) (λys=>ys=ixs L L.length) (λpre=>∃k,k<=L.length/\pre=ixs L k) L.length w:=λl J Jx W hW _ _ hY h0 =>
 qDa n hn l Bn n₀ p L J Jx hL hY W h1 ((hW.cell (p:=⟨Bn,0,none⟩) (Nat.lt_of_lt_of_le h1 hn₀)).trans hBn) (hB.below (hW.mono hn₀)) h0
theorem qF1{β:Type}(B:Nat)(t:TypeId)(f:β->Array Value):Go.Own (λ(s:β) (W:World)=>W.heap[B]? =some (.cells (f s) t (0,0))):=λs X Y row hs hg hrow =>
 (hg.block B (qa0 hs) (λe'=>by obtain⟨o,ho,hc⟩:=hrow B e'.symm;rw[hs]at ho;cases ho;cases hc)).trans hs
theorem qCl.more{n₀ n₁:Nat}{A:World}{p:Nat}{L:List EntC}(h:n₀<=n₁):qCl n₀ A p L->qCl n₁ A p L
 |⟨a,c,hp,hc,ha,hl⟩=>⟨a,c,by omega,hc,ha.more h,hl⟩
def qEw(n:Nat)(w:World)(e:Ending)(w':World):Prop:=(∃i:Int,e=.returned (.int .i64 i)/\(i= -1\/∃k:Nat,k<n/\i=k))/\Below w.heap.size w w'
theorem qDc(w:World)(p rp rc now:Nat)(H:List Nat)(d:Nat)(L:List EntC)(hL:L.length<=100000)(hB:qCl w.heap.size w p L)(lo:Nat)(hR:RdAt w lo rp rc now H):Calls prog 316 #[.pointer (some ⟨p,0,none⟩),.pointer (some ⟨rp,0,none⟩),.int .u64 (d:Int)] w (qEw L.length w):=by
 have TQ:=hid λ(W:World) (hb:Below w.heap.size w W) x=>qDl (RdAt.mk ((hb.block rp (qa0 hR.box)).trans hR.box) ((hb.block rc (qa0 hR.rows)).trans hR.rows) hR.lo hR.len hR.now1) x
 have HBG:=hid hB;have HL:=hid hL;clear hR hB;refine(callsIn_wide (n:=3)).1 ?_;refine callsIn_of_wp_marks func316 rfl trivial ?_ rfl;simp only[ntmps316,List.size_toArray,List.length_cons,List.length_nil,Nat.reduceAdd,Nat.reduceSub,Array.replicate_succ,Array.replicate_zero,List.push_toArray,List.append_toArray,List.nil_append,List.cons_append];gi_wp2_with (refine⟨trivial,?_⟩;gi_at_call 353;refine(callsIn_wide.2 (qD9 p _)).mono ?_;rintro e w1⟨rfl,he⟩;rw[he];clear he);have bQ:=Boxed.new w 116 (.pointer (some ⟨rp,0,none⟩));have bD:=Boxed.new (w.alloc (.cells #[.pointer (some ⟨rp,0,none⟩)] 116)) 55 (.int .u64 (d:Int));have bR:=Boxed.new ((w.alloc (.cells #[.pointer (some ⟨rp,0,none⟩)] 116)).alloc (.cells #[.int .u64 (d:Int)] 55)) 3 (.int .i64 0);have bA:=Boxed.new (((w.alloc (.cells #[.pointer (some ⟨rp,0,none⟩)] 116)).alloc (.cells #[.int .u64 (d:Int)] 55)).alloc (.cells #[.int .i64 0] 3)) 117 (.pointer (some ⟨p,0,none⟩));replace bQ:=((bQ.alloc (.cells #[.int .u64 (d:Int)] 55)).alloc (.cells #[.int .i64 0] 3)).alloc (.cells #[.pointer (some ⟨p,0,none⟩)] 117);replace bD:=(bD.alloc (.cells #[.int .i64 0] 3)).alloc (.cells #[.pointer (some ⟨p,0,none⟩)] 117);replace bR:=bR.alloc (.cells #[.pointer (some ⟨p,0,none⟩)] 117);simp only[World.size_alloc]at bQ bD bR bA;have hB0:Below w.heap.size w ((((w.alloc (.cells #[.pointer (some ⟨rp,0,none⟩)] 116)).alloc (.cells #[.int .u64 (d:Int)] 55)).alloc (.cells #[.int .i64 0] 3)).alloc (.cells #[.pointer (some ⟨p,0,none⟩)] 117)):=((((Below.refl _ w).alloc (Nat.le_refl _) _).alloc (by simp) _).alloc (by simp;omega) _).alloc (by simp;omega) _;have hsz:((((w.alloc (.cells #[.pointer (some ⟨rp,0,none⟩)] 116)).alloc (.cells #[.int .u64 (d:Int)] 55)).alloc (.cells #[.int .i64 0] 3)).alloc (.cells #[.pointer (some ⟨p,0,none⟩)] 117)).heap.size=w.heap.size+4:=by simp
 obtain⟨W0,hW0⟩:∃W0,(((w.alloc (.cells #[.pointer (some ⟨rp,0,none⟩)] 116)).alloc (.cells #[.int .u64 (d:Int)] 55)).alloc (.cells #[.int .i64 0] 3)).alloc (.cells #[.pointer (some ⟨p,0,none⟩)] 117)=W0:=⟨_,rfl⟩;rw[hW0]at bQ bD bR bA hB0 hsz ⊢;clear hW0;refine wpIn_rangeFunc_ownH rfl (by omega) (gf:=368) (lb:=#[.pointer (some ⟨w.heap.size+1+1+1,0,none⟩)]) rfl trivial (enters_of func368 (by kernel_rfl) rfl)
  (qCv _ (by omega) (w.heap.size+1+1+1) (w.heap.size+4) p L HL.out W0 (by omega) (by omega) bA.cell ((HBG.out.below hB0).more (by omega))) belowK_t (belowK_b (by omega)) (Below.refl _ _) (λ_=>rfl) (λpre W=>((Boxed W w.heap.size 116 (.pointer (some ⟨rp,0,none⟩))/\Boxed W (w.heap.size+1) 55 (.int .u64 (d:Int)))/\Boxed W (w.heap.size+1+1) 3 (.int .i64 0))/\Below (w.heap.size+4) W0 W) (λc pre W=>((c=.ret/\∃ini last,pre=ini++[last]/\W.cell? ⟨w.heap.size+1+1,0,none⟩=some (.int .i64 ((last.1:Nat):Int))))/\Below w.heap.size w W) (OwnFrom.and (OwnFrom.and (OwnFrom.and (Go.Own.from (boxed_own _ _ _) _) (Go.Own.from (boxed_own _ _ _) _)) (Go.Own.from (boxed_own _ _ _) _)) (ownFrom_below (by omega) (by omega))) (λc=>OwnFrom.and (Go.Own.from (λs A B row hs hg hr=>by obtain⟨hc,ini,last,e1,e4⟩:=hs;exact⟨hc,ini,last,e1,cell_kept e4 hg hr⟩) _) (ownFrom_below (Nat.le_refl _) (by omega))) ⟨⟨⟨bQ,bD⟩,bR⟩,Below.refl _ _⟩ (λx a' W=>∃Bx,w.heap.size+1+1<Bx/\W.heap[Bx]? =some (.cells x.2.enc.toArray 334 (0,0))/\a'= {tmps:=#[.pointer (some ⟨p,0,none⟩),.pointer (some ⟨rp,0,none⟩),.int .u64 (d:Int),undef,.pointer (some ⟨w.heap.size,0,none⟩),.pointer (some ⟨w.heap.size+1,0,none⟩),.pointer (some ⟨w.heap.size+1+1,0,none⟩),.int .i64 (x.1:Int),.pointer (some ⟨Bx,0,none⟩),.pointer (some ⟨rp,0,none⟩),.bool false,.pointer (some ⟨p,0,none⟩),.func (.func 368) #[] #[.pointer (some ⟨w.heap.size+1+1+1,0,none⟩)],.int .i64 (x.1:Int),x.2.val,undef,undef,undef,undef,undef,undef,undef,undef,undef,undef,undef],defers:=[]}) (λx a' _ X Y row hs hg hr=>by obtain⟨Bx,e1,e2,e3⟩:=hs;exact⟨Bx,e1,qF1 Bx 334 (λ(_:Unit)=>x.2.enc.toArray) () X Y row e2 hg (λr e=>(hr r e).2),e3⟩) ?assign ?body ?done ?stop
 case assign =>
  rintro l pre⟨xi,x⟩ W K ⟨⟨⟨b1,b2⟩,b3⟩,hB1⟩ hK;unfold EntC.val EntC.enc;gi_wp2;exact hK _ _ ((KeepsOthers.alloc _ _).from _) ((Below.refl _ W).alloc (by have:=hB1.size;omega) _) ⟨⟨⟨b1.alloc _,b2.alloc _⟩,b3.alloc _⟩,hB1.alloc (by have:=hB1.size;omega) _⟩ ⟨W.heap.size,b3.lt,World.alloc_heap_new W _,rfl⟩
 case body =>
  rintro l pre⟨xi,x⟩ a' W hl-⟨⟨⟨b1,b2⟩,b3⟩,hB1⟩ ⟨Bx,hBx,bX,rfl⟩ -;have c1:=b1.cell;have c2:=b2.cell;have c3:=b3.cell;have f3:=b3.frozen;have x2:W.cell? ⟨Bx,2,none⟩=some (.int .u64 (x.r:Int)):=(cell_of_row W Bx 2 _ _ _ bX).trans rfl;have x3:W.cell? ⟨Bx,3,none⟩=some (.int .u64 (x.d:Int)):=(cell_of_row W Bx 3 _ _ _ bX).trans rfl;have hB2:=hB0.trans (hB1.mono (Nat.le_add_right _ 4));have TQ1:=TQ.out W hB2 x.r;clear TQ HBG HL bX bA bR bD bQ hB0;unfold EntC.val EntC.enc;gi_wp2_with (refine⟨trivial,?_⟩;gi_at_call 354;refine(CallsIn.inRound l (callsIn_wide.2 TQ1)).mono ?_;rintro e w2⟨b,rfl,he⟩;rw[he];clear he);all_goals try(refine⟨trivial,?_⟩;gi_wp2)
  all_goals first|exact⟨(KeepsOthers.setCell _ _ _).from _,⟨rfl,pre,(xi,x),rfl,World.cell?_setCell_same' _ _ _ (by rw[c3];rfl)⟩,hB2.setCell (p:=⟨w.heap.size+1+1,0,none⟩) (by simp;omega) _⟩|exact⟨KeepsFrom.refl _ _,Below.refl _ _,⟨⟨b1,b2⟩,b3⟩,hB1⟩
 case done =>
  rintro D ys W hD-⟨⟨⟨b1,b2⟩,b3⟩,hB1⟩ hK;have c3:=b3.cell;have f3:=b3.frozen;have hB2:=hB0.trans (hB1.mono (Nat.le_add_right _ 4));gi_wp2;have hK':=(KeepsOthers.setCell W ⟨w.heap.size+1+1,0,none⟩ (.int .i64 (-1))).same D _ hK rfl;refine⟨by simp,.inl ⟨_,_,rfl,run_takeDeferred hK',?_⟩⟩;have hc5:=cell_kept (World.cell?_setCell_same' W ⟨w.heap.size+1+1,0,none⟩ (.int .i64 (-1)) (by rw[c3];rfl)) (grownBy_putObj' _ D (.deferred none)) (λr e=>by cases e;exact⟨_,hK',rfl⟩);refine⟨.int .i64 (-1),?_,⟨_,rfl,.inl rfl⟩,(hB2.setCell (p:=⟨w.heap.size+1+1,0,none⟩) (by simp;omega) _).trans (belowK_b (w:=w) (Nat.le_refl _) _ D _ _ (by omega) hK' rfl rfl)⟩;simp[results,Tryz.f316,go_sem,hc5]
 case stop =>
  rintro D c pre W hD⟨k,hk,rfl⟩ ⟨⟨rfl,ini,last,e1,hcr⟩,hB⟩ hK;gi_wp2;refine⟨by simp,.inl ⟨_,_,rfl,run_takeDeferred hK,?_⟩⟩;have hc5:=cell_kept hcr (grownBy_putObj' _ D (.deferred none)) (λr e=>by cases e;exact⟨_,hK,rfl⟩);obtain⟨k',rfl⟩:∃k',k=k'+1:=by
   cases k with
   |zero=>simp[ixs]at e1
   |succ k'=>exact⟨k',rfl⟩
  rw[qCt]at e1;obtain⟨rfl,e5⟩:=List.append_inj' e1 rfl;obtain rfl:(k',L[k']?.getD e0)=last:=by simpa using e5
  refine⟨.int .i64 (k':Int),?_,⟨_,rfl,.inr ⟨k',by omega,rfl⟩⟩,hB.trans (belowK_b (w:=w) (Nat.le_refl _) W D _ _ (by omega) hK rfl rfl)⟩;simp[results,Tryz.f316,go_sem,hc5]
end
section
open Go.RowKit
theorem qF8:∃d,prog.underlying 334=some d/\d.isRow=true:=⟨_,underlying334,rfl⟩
theorem qEr:(prog.info? 334).map (·.size)=some 5:=by kernel_rfl
theorem qCw{fn:Func}{p t:Tmp}(h:fn.results=#[.cell p 334,.tmp t])(tmps:Array Value)(w:World)(b:Nat)(x:EntC)(v:Value)(hp:tmps.getD p undef=.pointer (some ⟨b,0,none⟩))(ht:tmps.getD t undef=v)
 (hb:w.heap[b]? =some (.cells x.enc.toArray 334 (0,0))):(results fn tmps).run prog w=.ok (.tuple #[x.val,v]) w:=by
 obtain⟨d,h1,h2⟩:=qF8;rw[qdp h tmps w b x.enc d hp (qb5 hb) h1 h2 qEr,ht];rfl
def qEi(lo p:Nat)(A:Option Addr)(c:Nat)(l:List EntC)(w:World)(e:Ending)(w':World):Prop:=∃(x:EntC) (b:Bool) (l':List EntC),e=.returned (.tuple #[x.val,.bool b])/\qfi w' lo p A c l'/\(l'=l\/∃i,i<l.length/\l'=l.take i++l.drop (i+1))/\(b=true->x∈l)/\Below lo w w'/\(∀b,b<w.heap.size->b≠p->qa8 A c≠some b->w'.heap[b]? =w.heap[b]?)
theorem qDv(w:World)(lo p:Nat)(A:Option Addr)(c:Nat)(l:List EntC)(h:qfi w lo p A c l)(hap:qa8 A c≠some p)(hl:l.length<=100000)(rlo rp rc now:Nat)(H:List Nat)(hR:RdAt w rlo rp rc now H)(d:Nat):
 Calls prog 267 #[.pointer (some ⟨p,0,none⟩),.pointer (some ⟨rp,0,none⟩),.int .u64 (d:Int)] w (qEi lo p A c l w):=by
 have hlo:=h.lo;have hp:=qa0 h.box;obtain⟨w1,hw1⟩:∃w1,w.alloc (.cells #[.int .i64 0,.int .i64 0,.int .u64 0,.int .u64 0,.int .i64 0] 334)=w1:=⟨_,rfl⟩;have b1:Below w.heap.size w w1:=by rw[<-hw1];exact(Below.refl _ _).alloc (Nat.le_refl _) _
 have s1:w1.heap.size=w.heap.size+1:=by rw[<-hw1];simp
 have R1:w1.heap[w.heap.size]? =some (.cells #[.int .i64 0,.int .i64 0,.int .u64 0,.int .u64 0,.int .i64 0] 334 (0,0)):=by rw[<-hw1];exact(qa2 _ _ _).trans (if_pos rfl)
 have hB1:qCl w1.heap.size w1 p l:=⟨A,c,by omega,(b1.cell (p:=⟨p,0,none⟩) hp).trans (cell_of_row w p 0 _ _ _ h.box),((h.rows.arr EntC.enc_len).below b1).more (by omega),h.rows.1⟩;have TF:=qDc w1 p rp rc now H d l hl hB1 rlo (RdAt.mk ((b1.block rp (qa0 hR.box)).trans hR.box) ((b1.block rc (qa0 hR.rows)).trans hR.rows) hR.lo hR.len hR.now1);have HH:=hid h;have HAP:=hid hap;have HW1:=hid hw1;have HR1:=hid R1;have HB:=hid b1;have HL:=hid hl;clear h hap hB1 hR b1 R1 hl;go_enter func267,ntmps267;go_wp2_with fail;refine TF.mono ?_;rintro e w2⟨⟨i,rfl,hi⟩,b2⟩;have R2:=(b2.block w.heap.size (by omega)).trans HR1.out;have s2:=b2.size;have bb:=HB.out.trans (b2.mono HB.out.size);have BX2:=(bb.block p hp).trans HH.out.box;have OW2:=HH.out.rows.below bb;have HOW:=hid OW2;have HBB:=hid bb;have HBX:=hid BX2;have r0:=cell_of_row w2 _ 0 _ _ _ R2;have r1:=cell_of_row w2 _ 1 _ _ _ R2;have r2:=cell_of_row w2 _ 2 _ _ _ R2;have r3:=cell_of_row w2 _ 3 _ _ _ R2;have r4:=cell_of_row w2 _ 4 _ _ _ R2;have g0:=frozen_of_row w2 _ 0 _ _ R2;have g1:=frozen_of_row w2 _ 1 _ _ R2;have g2:=frozen_of_row w2 _ 2 _ _ R2;have g3:=frozen_of_row w2 _ 3 _ _ R2;have g4:=frozen_of_row w2 _ 4 _ _ R2;have hl2:=qa0 R2;have p0:=cell_of_row w2 p 0 _ _ _ BX2;have fp:=frozen_of_row w2 p 0 _ _ BX2;have hp2:=qa0 BX2;have HR2:=hid R2;simp only[List.getElem?_toArray,List.getElem?_cons_zero,List.getElem?_cons_succ]at r0 r1 r2 r3 r4 p0;clear TF b2 bb BX2 OW2 R2;rcases hi with rfl|⟨k,hk,rfl⟩
 · go_wp2_with fail
   generalize hwe:World.setCell (World.setCell (World.setCell (World.setCell (World.setCell w2 _ _) _ _) _ _) _ _) _ _=w5;have R5:w5.heap[w.heap.size]? =some (.cells e0.enc.toArray 334 (0,0)):=by rw[<-hwe];exact qB3 HR2.out
   have hk5:∀j,j≠w.heap.size->w5.heap[j]? =w2.heap[j]? :=λj hj=>by rw[<-hwe];exact qaa w.heap.size e0.enc 0 w2 j hj
   have hs5:Below 0 w2 w5:=by rw[<-hwe];exact(((((Below.refl _ _).setCell (Nat.zero_le _) _).setCell (Nat.zero_le _) _).setCell (Nat.zero_le _) _).setCell (Nat.zero_le _) _).setCell (Nat.zero_le _) _
   refine bodyPost_ret (v:=.tuple #[e0.val,.bool false]) (qCw results267 _ _ w.heap.size e0 _ (by simp) (by simp) R5) rfl ⟨e0,false,l,rfl,?_,.inl rfl,(λh0=>by cases h0),?_,?_⟩
   · refine⟨(hk5 p (by omega)).trans HBX.out,HOW.out.keep2 ?_,hlo⟩
     by_cases hc:c=0
     · exact .inl hc
     · refine .inr λb off hA _=>hk5 b λe=>?_
       have:=qyo HH.out.rows b (by rw[qa8,if_neg hc,hA];rfl);omega
   · exact⟨hs5.os.trans HBB.out.os,hs5.tape.trans HBB.out.tape,hs5.output.trans HBB.out.output,Nat.le_trans HBB.out.size hs5.size,λj hj=>(hk5 j (by omega)).trans (HBB.out.block j (by omega))⟩
   · exact λj hj _ _=>(hk5 j (by omega)).trans (HBB.out.block j hj)
 · obtain⟨n,hn⟩:∃n,l.length=n+1:=⟨l.length-1,by omega⟩
   have hcl:=HOW.out.1;obtain⟨b,off,cur,hA,hlob,hbw,hbs,hbc⟩:∃b off cur,A=some ⟨b,off,none⟩/\lo<=b/\w2.heap[b]? =some (.cells cur 334 (0,0))/\off+c*5<=cur.size/\∀j u,(l.flatMap EntC.enc)[j]? =some u->cur[off+j]? =some u:=by
    rcases HOW.out.2.2 with h0|h0
    · omega
    · exact h0
   subst hA;have hkn:k<=n:=by omega
   have hxc:=λj u hj hu=>(cell_of_row w2 b (off+(k*5+j)) _ _ _ hbw).trans (hbc (k*5+j) u ((qb0 EntC.enc_len l k hk j hj).trans hu))
   obtain⟨x,hx⟩:∃x,x=l[k]:=⟨_,rfl⟩;rw[<-hx]at hxc;have x0:w2.cell? ⟨b,off+k*5,none⟩=some (.int .i64 x.line):=hxc 0 _ (by omega) rfl;have x1:w2.cell? ⟨b,off+k*5+1,none⟩=some (.int .i64 x.cls):=hxc 1 _ (by omega) rfl;have x2:w2.cell? ⟨b,off+k*5+2,none⟩=some (.int .u64 (x.r:Int)):=hxc 2 _ (by omega) rfl;have x3:w2.cell? ⟨b,off+k*5+3,none⟩=some (.int .u64 (x.d:Int)):=hxc 3 _ (by omega) rfl;have x4:w2.cell? ⟨b,off+k*5+4,none⟩=some (.int .i64 x.anti):=hxc 4 _ (by omega) rfl;have HN:=hid hn;have HXV:=hid hx;rw[hn]at p0 hk;clear hxc hx hbw hbs hbc hcl hn;have hki:(k:Int)<(n:Int)+1:=by omega
   go_upto_region 5 with fail;generalize hw3:World.alloc w2 _=w3;have b3:Below w2.heap.size w2 w3:=by rw[<-hw3];exact(Below.refl _ _).alloc (Nat.le_refl _) _
   have X3:w3.heap[w2.heap.size]? =some (.cells x.enc.toArray 334 (0,0)):=by rw[<-hw3];exact(qa2 _ _ _).trans (if_pos rfl)
   have BX3:=(b3.block p hp2).trans HBX.out;rw[HN.out]at BX3;have q0:=cell_of_row w3 p 0 _ _ _ BX3;simp only[List.getElem?_toArray,List.getElem?_cons_zero]at q0;have e1:IntKind.i64.wrap ((k:Int)+1)=((k+1:Nat):Int):=by have:=HL.out;rw[HN.out]at this;rw[IntKind.wrap_i64];omega
   have hck:((k+1:Nat):Int)=(k:Int)+1:=by omega
   have hb0:=qyo HH.out.rows b (by have:=HH.out.rows.1;rw[HN.out]at this;rw[qa8,if_neg (by omega)];rfl);have hbp:b≠p:=λe=>HAP.out (by have:=HH.out.rows.1;rw[HN.out]at this;rw[qa8,if_neg (by omega)];exact congrArg some e)
   have R3:=(b3.block _ hl2).trans HR2.out;have TD:=qF9 l n b off c lo k w3 (HOW.out.below b3) HN.out hkn;have HX3:=hid X3;have HBX3:=hid BX3;have HR3:=hid R3;have HB3:=hid b3;have s3:=b3.size;have l3:=qa0 X3;clear hw3 p0 fp r0 r1 r2 r3 r4 g0 g1 g2 g3 g4 x0 x1 x2 x3 x4 b3 X3 BX3 R3;go_wp2_with fail;refine TD.mono ?_;rintro e w4⟨rfl,ho4,hg4⟩;have hc0:¬c=0:=by have:=HH.out.rows.1;rw[HN.out]at this;omega
   rw[qa8,if_neg hc0]at hg4;have BX4:=(hg4.block p (by omega) (λe=>hbp (Option.some.inj e).symm)).trans HBX3.out;have R4:=(hg4.block w.heap.size (by omega) (λe=>by have:w.heap.size=b:=Option.some.inj e;omega)).trans HR3.out;have X4:=(hg4.block w2.heap.size (by omega) (λe=>by have:w2.heap.size=b:=Option.some.inj e;omega)).trans HX3.out;have s4:=hg4.size;have p0:=cell_of_row w4 p 0 _ _ _ BX4;have fp:=frozen_of_row w4 p 0 _ _ BX4;have hp4:=qa0 BX4;simp only[List.getElem?_toArray,List.getElem?_cons_zero]at p0;have HO4:=hid ho4;have HG4:=hid hg4;have HBX4:=hid BX4;have HR4:=hid R4;have HX4:=hid X4;have HP:=hid hp;have HBP:=hid hbp;have HB0:=hid hb0;clear ho4 hg4 BX4 R4 X4 TD q0 hp hbp hb0;go_upto_region 6 with fail;generalize hw5:World.setCell w4 _ _=w5;have BX5:w5.heap[p]? =some (.cells #[.slice (some ⟨b,off,none⟩) n c] 226 (0,0)):=by rw[<-hw5];exact heap_setCell_same w4 p 0 _ _ _ HBX4.out
   have hk5:∀j,j≠p->w5.heap[j]? =w4.heap[j]? :=λj hj=>by rw[<-hw5];exact Below.heap_setCell _ _ _ _ hj
   have s5:w5.heap.size=w4.heap.size:=by rw[<-hw5];simp
   have g5:w4.grownBy w5 (some p):=by rw[<-hw5];exact qCj w4 ⟨p,0,none⟩ _
   have R5:=(hk5 w.heap.size (by have:=HP.out;omega)).trans HR4.out;have X5:=(hk5 w2.heap.size (by omega)).trans HX4.out;have HR5:=hid R5;have HBX5:=hid BX5;have HK5:=hid hk5;have HG5:=hid g5;have r0:=cell_of_row w5 _ 0 _ _ _ R5;have r1:=cell_of_row w5 _ 1 _ _ _ R5;have r2:=cell_of_row w5 _ 2 _ _ _ R5;have r3:=cell_of_row w5 _ 3 _ _ _ R5;have r4:=cell_of_row w5 _ 4 _ _ _ R5;have x0:=cell_of_row w5 _ 0 _ _ _ X5;have x1:=cell_of_row w5 _ 1 _ _ _ X5;have x2:=cell_of_row w5 _ 2 _ _ _ X5;have x3:=cell_of_row w5 _ 3 _ _ _ X5;have x4:=cell_of_row w5 _ 4 _ _ _ X5;have f0:=frozen_of_row w5 _ 0 _ _ R5;have f1:=frozen_of_row w5 _ 1 _ _ R5;have f2:=frozen_of_row w5 _ 2 _ _ R5;have f3:=frozen_of_row w5 _ 3 _ _ R5;have f4:=frozen_of_row w5 _ 4 _ _ R5;simp only[EntC.enc,List.getElem?_toArray,List.getElem?_cons_zero,List.getElem?_cons_succ]at r0 r1 r2 r3 r4 x0 x1 x2 x3 x4;clear hw5 hk5 g5 R5 X5 BX5 p0 fp;go_wp2_with fail;generalize hwe:World.setCell (World.setCell (World.setCell (World.setCell (World.setCell w5 _ _) _ _) _ _) _ _) _ _=w6;have R6:w6.heap[w.heap.size]? =some (.cells x.enc.toArray 334 (0,0)):=by rw[<-hwe];exact qB3 HR5.out
   have hk6:∀j,j≠w.heap.size->w6.heap[j]? =w5.heap[j]? :=λj hj=>by rw[<-hwe];exact qaa w.heap.size x.enc 0 w5 j hj
   have hs6:Below 0 w5 w6:=by rw[<-hwe];exact(((((Below.refl _ _).setCell (Nat.zero_le _) _).setCell (Nat.zero_le _) _).setCell (Nat.zero_le _) _).setCell (Nat.zero_le _) _).setCell (Nat.zero_le _) _
   clear hwe;refine bodyPost_ret (v:=.tuple #[x.val,.bool true]) (qCw results267 _ _ w.heap.size x _ (by simp) (by simp) R6) rfl ⟨x,true,_,rfl,⟨(hk6 p (by have:=HP.out;omega)).trans (HBX5.out.trans ?_),HO4.out.keep2 (.inr ?_),hlo⟩,.inr ⟨k,by rw[HN.out];exact hk,rfl⟩,(λ_=>by rw[HXV.out];exact List.getElem_mem _),?_,?_⟩
   · have hlen:(l.take k++l.drop (k+1)).length=n:=by have:=HN.out;rw[List.length_append,List.length_take,List.length_drop];omega
     rw[hlen]
   · intro b' o' hA _
     cases hA
     exact(hk6 b (by have:=HB0.out;omega)).trans (HK5.out b HBP.out)
   · refine⟨hs6.os.trans (HG5.out.os.trans (HG4.out.os.trans (HB3.out.os.trans HBB.out.os))),hs6.tape.trans (HG5.out.tape.trans (HG4.out.tape.trans (HB3.out.tape.trans HBB.out.tape))),hs6.output.trans (HG5.out.output.trans (HG4.out.output.trans (HB3.out.output.trans HBB.out.output))),by have:=hs6.size;omega,λj hj=>?_⟩
     have:=HP.out;exact(hk6 j (by omega)).trans ((HK5.out j (by omega)).trans ((HG4.out.block j (by omega) (λe=>by have:j=b:=Option.some.inj e;omega)).trans ((HB3.out.block j (by omega)).trans (HBB.out.block j (by omega)))))
   · intro j hj hjp hjb
     rw[qa8,if_neg hc0]at hjb;exact(hk6 j (by omega)).trans ((HK5.out j hjp).trans ((HG4.out.block j (by omega) (λe=>hjb e.symm)).trans ((HB3.out.block j (by omega)).trans (HBB.out.block j (by omega)))))
end
section
open Go.RowKit
theorem qEn(w:World)(lo p dc:Nat)(D:List qab)(h:qbb w lo p dc D)(i:Int)(hi:i<0\/(D.length:Int)<=i)(A:Option Addr)(n c:Nat):Calls prog 105 #[.pointer (some ⟨p,0,none⟩),.int .i64 i,.int .i64 0,.slice A n c] w λe w'=>e=.returned (.int .i64 2)/\w'=w:=by
 have T0:=hid (qvc w lo p dc D h i hi 0 n);clear h;go_enter func105,ntmps105;go_wp2_with fail;refine T0.out.mono ?_;rintro e w1⟨rfl,he⟩;rw[he];go_wp2_with fail;go_ret;exact⟨rfl,rfl⟩
section
variable {g:Own8}{w:World}{a:Nat}{P:qag}{M:qa4}
def qFb(a:Nat)(P:qag)(M:qa4)(g:Own8)(w:World)(e:Ending)(w':World):Prop:=∃(code:Int) (D:List qab),e=.returned (.int .i64 code)/\D.length=M.D.length/\ATo g w w' a P {M with D:=D}
theorem qDd(h:qa6 g w a P M)(i:Int)(m:List UInt8)(A:Option Addr)(c:Nat)(hA:Arr byE 1 w w.heap.size A m)(hm:m≠ [])(hfit:m.length<=64)(hc:m.length<=c):
 Calls prog 105 #[.pointer (some ⟨P.dp,0,none⟩),.int .i64 i,.int .i64 0,.slice A m.length c] w (qFb a P M g w):=by
 by_cases hi:i<0\/(M.D.length:Int)<=i
 · refine(qEn w 0 P.dp P.dc M.D h.dev.2.1 i hi A _ c).mono ?_
   rintro e w'⟨rfl,he⟩;rw[he];exact⟨_,_,rfl,rfl,g,h,Ext.refl _ _⟩
 · obtain⟨n,rfl⟩:∃n:Nat,i=n:=⟨i.toNat,by omega⟩
   refine(qgb h n (by omega) m A c hA hm hfit hc).mono ?_;rintro e w'⟨rfl,ht⟩;exact⟨_,_,rfl,by rw[List.length_set],ht⟩
def qEk(a:Nat)(P:qag)(M:qa4)(g:Own8)(w:World)(e:Ending)(w':World):Prop:=∃(x:EntC) (b:Bool) (L:List EntC),e=.returned (.tuple #[x.val,.bool b])/\(L=M.bag\/∃i,i<M.bag.length/\L=M.bag.take i++M.bag.drop (i+1))/\(b=true->x∈M.bag)/\ATo g w w' a P {M with bag:=L}
theorem qDe(h:qa6 g w a P M)(hl:M.bag.length<=258)(d:Nat):Calls prog 267 #[.pointer (some ⟨P.bp,0,none⟩),.pointer (some ⟨P.rp,0,none⟩),.int .u64 (d:Int)] w (qEk a P M g w):=by
 obtain⟨A,c,h1,h2,h3⟩:=h.bag;refine(qDv w 0 P.bp A c M.bag h1 (λhe=>h1.rows.notBox h1.box (by decide) he.symm) (by omega) 0 P.rp P.rc M.rnow M.H h.rd.1 d).mono ?_;rintro e w'⟨x,b,L,rfl,hb,hL,hin,hbl,hk⟩;refine⟨x,b,L,rfl,hL,hin,h.setBag ⟨hbl.os,hbl.tape,hbl.output,hbl.size,λj hj hn=>hk j hj (λe=>hn (.inl (e ▸ h2))) λhA=>?_⟩ hb (qhc h3 (qcg h1.rows) (qcg hb.rows) (.inl ⟨rfl,rfl⟩))⟩;exact hn (.inl (h3 j hA))
end
end
section
open Go.RowKit
def RelR(M M':qa4):Prop:=∃(D:List qab) (S:List qan) (bag:List EntC) (owed:List Int) (noted:List Bool),M'= {M with D:=D,S:=S,bag:=bag,owed:=owed,noted:=noted}/\D.length=M.D.length/\S.length=M.S.length/\owed.length=M.owed.length/\qC5 bag
def qEu(a:Nat)(P:qag)(M:qa4)(g:Own8)(w:World)(e:Ending)(w':World):Prop:=∃(x:EntC) (code:Int) (M':qa4),e=.returned (.tuple #[x.val,.int .i64 code])/\RelR M M'/\ATo g w w' a P M'
theorem NobR.ent{g:Own8}{w:World}{b:Nat}{x:EntC}(h:NobR g w b 334 x.enc):w.cell? ⟨b,0,none⟩=some (.int .i64 x.line)/\w.cell? ⟨b,1,none⟩=some (.int .i64 x.cls):=⟨(cell_of_row w b 0 _ _ _ h.1).trans rfl,(cell_of_row w b 1 _ _ _ h.1).trans rfl⟩
section
variable {g:Own8}{w:World}{a:Nat}{P:qag}{M:qa4}
theorem qD0(h:qa6 g w a P M)(hb:qC5 M.bag)(ho:0<M.owed.length):Calls prog 210 #[.pointer (some ⟨a,0,none⟩)] w (qEu a P M g w):=by
 have H:=hid h;have HBG:=hid hb;have HO:=hid ho;clear h hb ho;go_enter func210,ntmps210;go_upto_region 3 with fail;generalize hw1:World.alloc w _=w1;have b1:Below w.heap.size w w1:=by rw[<-hw1];exact(Below.refl _ _).alloc (Nat.le_refl _) _
 have N1:NobR g w1 w.heap.size 334 e0.enc:=⟨by rw[<-hw1];exact(qa2 _ _ _).trans (if_pos rfl),H.out.far _ (Nat.le_refl _)⟩;have H1:=hid (H.out.below b1);have HN1:=hid N1;have HE1:=hid (Ext.below (g:=g) b1);clear hw1 b1 N1;go_wp2_with(first|(go_at_call 266;refine(qEt H1.out).mono ?_;rintro e w2⟨rfl,he⟩;rw[he];clear he)|(go_at_call 208;refine(qeb H1.out).mono ?_;rintro e w2⟨rfl,he⟩;rw[he];clear he)|(go_at_call 40;refine(qcr H1.out).mono ?_;rintro e w2⟨rfl,he⟩;rw[he];clear he)|(go_at_call 42;refine(qx1 H1.out.clk.1).mono ?_;rintro e w2⟨rfl,he⟩;rw[he];clear he));refine(qDe H1.out HBG.out.1 M.dur).mono ?_;rintro e w2⟨x,b,L,rfl,hL,hin,g2,A2,E2⟩;have HXV:=hid (show x.val=.agg #[.int .i64 x.line,.int .i64 x.cls,.int .u64 (x.r:Int),.int .u64 (x.d:Int),.int .i64 x.anti]from rfl);rw[HXV.out];obtain⟨M2,hM2⟩:∃M2:qa4,M2= {M with bag:=L}:=⟨_,rfl⟩;rw[<-hM2]at A2;have HM2:=hid hM2;have HOK:=hid (HBG.out.pop hL);have HIN:=hid (λh0:b=true=>qDn (HBG.out.2 x (hin h0)));have HN2:=hid (HN1.out.ext E2);have HA2:=hid A2;have HE2:=hid (HE1.out.trans E2);clear A2 E2 hM2 hL hin H1 HN1 HE1;go_upto_region 4 with fail;generalize hw3:World.alloc w2 _=w3;have b3:Below w2.heap.size w2 w3:=by rw[<-hw3];exact(Below.refl _ _).alloc (Nat.le_refl _) _
 obtain⟨xb,hxb⟩:∃xb,xb=w2.heap.size:=⟨_,rfl⟩;rw[<-hxb];have X3:NobR g2 w3 xb 334 x.enc:=⟨by rw[<-hw3,hxb];exact(qa2 _ _ _).trans (if_pos rfl),by rw[hxb];exact HA2.out.far _ (Nat.le_refl _)⟩;have HX3:=hid X3;have HN3:=hid (HN2.out.below b3);have HA3:=hid (HA2.out.below b3);have HE3:=hid (HE2.out.trans (Ext.below b3));have hne:w.heap.size≠xb:=by have:=HN2.out.lt;omega
 clear hw3 b3 X3 HN2 HA2 HE2 hxb;cases b with
 |false =>
  have R:=HN3.out.1;have r0:=cell_of_row w3 _ 0 _ _ _ R;have r1:=cell_of_row w3 _ 1 _ _ _ R;have r2:=cell_of_row w3 _ 2 _ _ _ R;have r3:=cell_of_row w3 _ 3 _ _ _ R;have r4:=cell_of_row w3 _ 4 _ _ _ R;have f0:=frozen_of_row w3 _ 0 _ _ R;have f1:=frozen_of_row w3 _ 1 _ _ R;have f2:=frozen_of_row w3 _ 2 _ _ R;have f3:=frozen_of_row w3 _ 3 _ _ R;have f4:=frozen_of_row w3 _ 4 _ _ R;simp only[EntC.enc,List.getElem?_toArray,List.getElem?_cons_zero,List.getElem?_cons_succ]at r0 r1 r2 r3 r4;clear R;go_wp2_with fail;refine bodyPost_ret (v:=.tuple #[e0.val,.int .i64 12]) (qCw results210 _ _ w.heap.size e0 _ (by simp) (by simp) (qB3 HN3.out.1)) rfl ⟨e0,12,M2,rfl,⟨M.D,M.S,L,M.owed,M.noted,HM2.out,rfl,rfl,rfl,HOK.out⟩,g2,?_,?_⟩
  · exact((((HA3.out.set0 HN3.out.2 0 _).set0 HN3.out.2 1 _).set0 HN3.out.2 2 _).set0 HN3.out.2 3 _).set0 HN3.out.2 4 _
  · exact((((HE3.out.setNew (Nat.le_refl _) 0 _).setNew (Nat.le_refl _) 1 _).setNew (Nat.le_refl _) 2 _).setNew (Nat.le_refl _) 3 _).setNew (Nat.le_refl _) 4 _
 |true =>
  obtain⟨hx1,hx2,hx3⟩:=HIN.out rfl;clear HIN;obtain⟨r0,r1⟩:=HX3.out.ent;have HK:=hid HX3.out.ent;have hl:=HX3.out.lt;have H64:=hid (qqn hx3);go_upto_region 6 with fail;go_cut [] (λwx=>∃g6 D6,D6.length=M2.D.length/\qa6 g6 wx a P {M2 with D:=D6}/\Ext g2 g6 w3 wx)
  case first =>
   go_region_held3 (λW=>W.cell? ⟨xb,0,none⟩=some (.int .i64 x.line)/\W.cell? ⟨xb,1,none⟩=some (.int .i64 x.cls)) (first|(with_reducible exact HSK)|(with_reducible refine qAt (W:=w3) ?_ hl hl HK.out;(repeat(first|with_reducible exact Below.refl _ _|with_reducible assumption|with_reducible refine Below.drew ?_|with_reducible refine qa1 ?_ _));done)|go_keep) (first|(go_at_call 32;refine(qek (HA3.out.below ?_)).mono ?_;exact(by with_reducible repeat(first|exact Below.refl _ _|assumption|refine Below.drew ?_|refine qa1 ?_ _|refine Below.alloc ?_ (by first|omega|simp <;> omega) _|refine Below.setCell ?_ (by first|omega|simp <;> omega) _));rintro e wd⟨rfl,he⟩;rw[he];clear he)|(go_at_call 268;refine(qr2 x.cls _ hx3).mono ?_;rintro e w5⟨A5,c5,rfl,o5,b5⟩;have HO5:=hid o5;have ST5:Below w3.heap.size w3 w5:=(by refine Below.trans ?_ (b5.mono ?_);exact(by with_reducible repeat(first|exact Below.refl _ _|assumption|refine Below.drew ?_|refine qa1 ?_ _|refine Below.alloc ?_ (by first|omega|simp <;> omega) _|refine Below.setCell ?_ (by first|omega|simp <;> omega) _));(first|exact Nat.le_refl _|(simp;done)|(simp;omega)|omega));clear o5 b5)|(go_at_call 105;refine(qDd (g:=g2) (HA3.out.below ?_) x.line (qgj x.cls) _ _ (HO5.out.arr qbn) (λh0=>?_) (Nat.le_of_eq H64.out) HO5.out.len).mono ?_;exact(by with_reducible repeat(first|exact Below.refl _ _|assumption|refine Below.drew ?_|refine qa1 ?_ _|refine Below.alloc ?_ (by first|omega|simp <;> omega) _|refine Below.setCell ?_ (by first|omega|simp <;> omega) _));have h1:=H64.out;rw[h0]at h1;cases h1;rintro e w6⟨code,D6,rfl,hD6,g6,A6,E6⟩;have HD6:=hid hD6;have HA6:=hid A6;have HE6:=hid (Ext.trans (Ext.below (show Below w3.heap.size w3 _ from(by with_reducible repeat(first|exact Below.refl _ _|assumption|refine Below.drew ?_|refine qa1 ?_ _|refine Below.alloc ?_ (by first|omega|simp <;> omega) _|refine Below.setCell ?_ (by first|omega|simp <;> omega) _)))) E6);clear hD6 A6 E6;have HSK:=(HX3.out.ext HE6.out).ent)|fail);all_goals
    go_wp2_with fail;go_meet;exact⟨_,_,HD6.out,HA6.out,HE6.out⟩
  obtain⟨g6,D6,hD6,A6,E6⟩:=hcut;obtain⟨w6,hw6⟩:∃x,x=wc:=⟨_,rfl⟩;subst hw6;have HX6:=hid (HX3.out.ext E6);have HN6:=hid (HN3.out.ext E6);have HE6:=hid (HE3.out.trans E6);obtain⟨M6,hM6⟩:∃M6:qa4,M6= {M2 with D:=D6}:=⟨_,rfl⟩;rw[<-hM6]at A6;have HM6:=hid hM6;have HD6:=hid hD6;have HA6:=hid A6;clear A6 E6 hD6 hM6 HK r0 r1 hl HX3 HN3 HA3 HE3;obtain⟨ln,hln⟩:∃ln:Nat,x.line=(ln:Int):=⟨x.line.toNat,by omega⟩;have HLN:=hid hln;have hl258:ln<258:=by omega
  clear hln;obtain⟨r0,r1⟩:=HX6.out.ent;have hl:=HX6.out.lt;have q3:=HA6.out.cells.2.2.2.1;have hla:=qa0 HA6.out.box.1;go_upto_region 7 with fail;go_still_tail 6,(by kernel_rfl);change wpList _ _ _ _ _ (World.drew w6);have b7:Below w6.heap.size w6 w6.drew:=(Below.refl _ _).drew;generalize hw7:World.drew w6=w7 at *;have HX7:=hid (HX6.out.below b7);have HN7:=hid (HN6.out.below b7);have HA7:=hid (HA6.out.below b7);have HE7:=hid (HE6.out.trans (Ext.below b7));have TN:=qu6 HA7.out 0 ln (by rw[HM6.out,HM2.out];exact HO.out) hl258;rw[<-HLN.out,show((0:Nat):Int)=0 from rfl]at TN;have HTN:=hid TN;clear hw7 b7 r0 r1 hl hla q3 TN HX6 HN6 HA6 HE6;go_wp2_with fail;refine HTN.out.mono ?_;rintro e w8⟨rfl,owed,how,g8,A8,E8⟩;obtain⟨M8,hM8⟩:∃M8:qa4,M8= {M6 with owed:=owed,noted:=M6.noted.set ln true}:=⟨_,rfl⟩;rw[<-hM8]at A8;have HM8:=hid hM8;have HOW:=hid how;have HX8:=hid (HX7.out.ext E8);have HN8:=hid (HN7.out.ext E8);have HA8:=hid A8;have HE8:=hid (HE7.out.trans E8);obtain⟨r0,r1⟩:=HX8.out.ent;have hl:=HX8.out.lt;have q1:=HA8.out.cells.2.1;have hla:=qa0 HA8.out.box.1;clear A8 E8 hM8 how HTN HX7 HN7 HA7 HE7;go_upto_region 8 with fail;go_still_tail 6,(by kernel_rfl);change wpList _ _ _ _ _ (World.drew w8);have b9:Below w8.heap.size w8 w8.drew:=(Below.refl _ _).drew;generalize hw9:World.drew w8=w9 at *;have HX9:=hid (HX8.out.below b9);have HN9:=hid (HN8.out.below b9);have HA9:=hid (HA8.out.below b9);have HE9:=hid (HE8.out.trans (Ext.below b9));clear hw9 b9 r0 r1 hl hla q1 HX8 HN8 HA8 HE8;go_wp2_with fail;refine(qmf HA9.out x.line).mono ?_;rintro e w10⟨code,S,rfl,hS,g10,A10,E10⟩;obtain⟨M10,hM10⟩:∃M10:qa4,M10= {M8 with S:=S}:=⟨_,rfl⟩;rw[<-hM10]at A10;have HM10:=hid hM10;have HS:=hid hS;have HX10:=hid (HX9.out.ext E10);have HN10:=hid (HN9.out.ext E10);have HA10:=hid A10;have HE10:=hid (HE9.out.trans E10);have r4:w10.cell? ⟨xb,4,none⟩=some (.int .i64 x.anti):=(cell_of_row w10 xb 4 _ _ _ HX10.out.1).trans rfl;clear A10 E10 hM10 hS HX9 HN9 HA9 HE9;have FIN:Hid (∃g' wx bag,wx=w10/\g'=g10/\bag=M10.bag/\qC5 bag/\qa6 g' wx a P {M10 with bag:=bag}/\Ext g g' w wx/\NobR g' wx xb 334 x.enc/\NobR g' wx w.heap.size 334 e0.enc):=hid ⟨g10,w10,M10.bag,rfl,rfl,rfl,(by rw[HM10.out,HM8.out,HM6.out,HM2.out];exact HOK.out),HA10.out,HE10.out,HX10.out,HN10.out⟩;by_cases han:x.anti= -1;focus
   have hb1:(x.anti== -1)=true:=by rw[han];rfl
   go_upto_region 11 with fail;obtain⟨g13,w13,bag,hw,hg,hbag,HFI⟩:=FIN.out;rw[<-hw];have HFI:=hid HFI;clear hw hg hbag FIN HX10 HN10 HA10 HE10 r4 hb1 han
  rotate_left;focus
   have hb1:(x.anti== -1)=false:=by rw[beq_eq_false_iff_ne];exact han
   have hb2:(x.anti != -1)=true:=by rw[bne,hb1];rfl
   clear han;have q4:=HA10.out.cells.2.2.2.2.1;have q2:=HA10.out.cells.2.2.1;have q3:=HA10.out.cells.2.2.2.1;have hla:=qa0 HA10.out.box.1;have hl:=HX10.out.lt;have b11:Below w10.heap.size w10 w10.drew:=(Below.refl _ _).drew;have HX11:=hid (HX10.out.below b11);have HN11:=hid (HN10.out.below b11);have HA11:=hid (HA10.out.below b11);have HE11:=hid (HE10.out.trans (Ext.below b11));have TN:=hid (qu4 HA11.out);have TM:=hid (qgy HA11.out);go_upto_region 10 with fail;go_still_tail 17,(by kernel_rfl);still_call TN.out;repeat still_step
   still_call TM.out;repeat still_step
   refine wpStill_nil ?_;change wpList _ _ _ _ _ (World.drew w10);generalize hw11:World.drew w10=w11 at *;clear hw11 b11 q2 q3 q4 hla hl hb1 hb2 r4 FIN HX10 HN10 HA10 HE10 TN TM;have TB:=qo8 HA11.out ⟨x.anti,0,M10.rnow,M10.now, -1⟩;rw[show(⟨x.anti,0,M10.rnow,M10.now, -1⟩:EntC).val=.agg #[.int .i64 x.anti,.int .i64 0,.int .u64 (M10.rnow:Int),.int .u64 (M10.now:Int),.int .i64 (-1)]from rfl]at TB;have HTB:=hid TB;clear TB;go_wp2_with fail;refine HTB.out.mono ?_;rintro e w13⟨⟨v,rfl⟩,g13,A13,E13⟩;obtain⟨bag,hbag⟩:∃bag,bag=putE M10.bag ⟨x.anti,0,M10.rnow,M10.now, -1⟩:=⟨_,rfl⟩;rw[<-hbag]at A13;have HFI:qC5 bag/\qa6 g13 w13 a P {M10 with bag:=bag}/\Ext g g13 w w13/\NobR g13 w13 xb 334 x.enc/\NobR g13 w13 w.heap.size 334 e0.enc:=⟨by rw[hbag];exact qC5.put (by rw[HM10.out,HM8.out,HM6.out,HM2.out];exact HOK.out) _,A13,HE11.out.trans E13,HX11.out.ext E13,HN11.out.ext E13⟩;have HFI:=hid HFI;clear hbag A13 E13 HTB HX11 HN11 HA11 HE11;go_upto_region 11 with fail
  all_goals
   obtain⟨hbk,A13,E13,X13,N13⟩:=HFI.out;have x0:=cell_of_row w13 _ 0 _ _ _ X13.1;have x1:=cell_of_row w13 _ 1 _ _ _ X13.1;have x2:=cell_of_row w13 _ 2 _ _ _ X13.1;have x3:=cell_of_row w13 _ 3 _ _ _ X13.1;have x4:=cell_of_row w13 _ 4 _ _ _ X13.1;have r0:=cell_of_row w13 _ 0 _ _ _ N13.1;have r1:=cell_of_row w13 _ 1 _ _ _ N13.1;have r2:=cell_of_row w13 _ 2 _ _ _ N13.1;have r3:=cell_of_row w13 _ 3 _ _ _ N13.1;have r4:=cell_of_row w13 _ 4 _ _ _ N13.1;have f0:=frozen_of_row w13 _ 0 _ _ N13.1;have f1:=frozen_of_row w13 _ 1 _ _ N13.1;have f2:=frozen_of_row w13 _ 2 _ _ N13.1;have f3:=frozen_of_row w13 _ 3 _ _ N13.1;have f4:=frozen_of_row w13 _ 4 _ _ N13.1;simp only[EntC.enc,List.getElem?_toArray,List.getElem?_cons_zero,List.getElem?_cons_succ]at x0 x1 x2 x3 x4 r0 r1 r2 r3 r4;clear hbk A13 E13 X13 N13;go_wp2_with fail;obtain⟨hbk,A13,E13,X13,N13⟩:=HFI.out;have hSl:S.length=M.S.length:=by
    have h0:=HS.out;have h1:M8.S=M.S:=by rw[HM8.out,HM6.out,HM2.out]
    rw[h1]at h0;rcases h0 with h0|⟨i,k,hi,h0,_⟩
    · rw[h0]
    · rw[h0,List.length_set]
   refine bodyPost_ret (v:=.tuple #[x.val,.int .i64 0]) (qCw results210 _ _ w.heap.size x _ (by simp) (by simp) (qB3 N13.1)) rfl ⟨x,0,{M10 with bag:=bag},rfl,⟨D6,S,bag,owed,M6.noted.set ln true,by rw[HM10.out,HM8.out,HM6.out,HM2.out],by rw[HD6.out,HM2.out],hSl,by rw[HOW.out,HM6.out,HM2.out],hbk⟩,g13,?_,?_⟩
   · exact((((A13.set0 N13.2 0 _).set0 N13.2 1 _).set0 N13.2 2 _).set0 N13.2 3 _).set0 N13.2 4 _
   · exact((((E13.setNew (Nat.le_refl _) 0 _).setNew (Nat.le_refl _) 1 _).setNew (Nat.le_refl _) 2 _).setNew (Nat.le_refl _) 3 _).setNew (Nat.le_refl _) 4 _
end
end
end Go.Proofs.YtecikkjbnkhhkaaGreat
