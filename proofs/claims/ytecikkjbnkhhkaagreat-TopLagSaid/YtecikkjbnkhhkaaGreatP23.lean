/- A part of the walk. -/
import Derived.Test.YtecikkjbnkhhkaaGreatP15
namespace Go.Proofs.YtecikkjbnkhhkaaGreat
open _root_.Go.Proofs.Tryz
set_option maxHeartbeats 4000000
set_option maxRecDepth 100000
section
open Go.RowKit
def qdl(m:List qa3)(w:World)(e:Ending)(w':World):Prop:=∃A c,e=.returned (.slice A m.length c)/\Own qa3.enc 85 5 w' w.heap.size A c m/\Below w.heap.size w w'
theorem qn5(w:World)(lo p:Nat)(A:Option Addr)(c:Nat)(L:List qa3)(at' n:Nat)(h:qbo w lo p A c L at' n)(hL:L.length<=900000):Calls prog 99 #[.pointer (some ⟨p,0,none⟩)] w (qdl (qd4 L at' n) w):=by
 have hp:=qa0 h.box;have hfit:=h.fit;have hmx:=qbf (at':=at') hfit.1;obtain⟨M,hM⟩:∃M,M=qd4 L at' n:=⟨_,rfl⟩;rw[<-hM]at hmx ⊢;have HMX:=hid hmx;have HM:=hid hM;have H:=hid h;have p0:=cell_of_row w p 0 _ _ _ h.box;have p1:=cell_of_row w p 1 _ _ _ h.box;have p2:=cell_of_row w p 2 _ _ _ h.box;simp only[List.getElem?_toArray,List.getElem?_cons_zero,List.getElem?_cons_succ]at p0 p1 p2;clear h hM hmx;go_enter func99,ntmps99;go_wp2_with fail;go_loopw [3,4,9] (λv3 _ v9 wr=>∃(i:Nat) (A':Option Addr) (c':Nat) (N:List qa3),i<=n/\v9=.int .i64 i/\v3=.slice A' N.length c'/\Hid (N=M.take i)/\Own qa3.enc 85 5 wr w.heap.size A' c' N/\Below w.heap.size w wr) (λ_ _ v9 _=>n-(intOf v9).toNat)
 case atStart=>exact⟨0,none,0,[],by omega,rfl,rfl,hid rfl,Own.none_,Below.refl _ _⟩
 case round =>
  obtain⟨i,A',c',N,hi,rfl,rfl,HN,hown,hb⟩:=hrel;have HO:=hid hown;have HB:=hid hb;have hsz:=hb.size;have hln:N.length=i:=by rw[HN.out,List.length_take,HMX.out];omega
  by_cases hlt:i<n
  · have hat:at'<L.length:=by rcases hfit.2 with h0|h0 <;> omega
    have hk:(at'+i)%L.length<L.length:=Nat.mod_lt _ (by omega);have hgt:M[i]'(by rw[HMX.out];exact hlt)=L[(at'+i)%L.length]:=by
     simp only[HM.out];exact qe6 hfit.1 hat hlt
    have e3:Int.tmod ((at':Int)+(i:Int)) (L.length:Int)=(((at'+i)%L.length:Nat):Int):=by rw[show(at':Int)+(i:Int)=((at'+i:Nat):Int)by omega,Int.ofNat_tmod]
    have i2:IntKind.i64.wrap (((at'+i)%L.length:Nat):Int)=(((at'+i)%L.length:Nat):Int):=Go.IntWalk.i64_in _ (by omega);have i1:IntKind.i64.wrap ((at':Int)+(i:Int))=(at':Int)+(i:Int):=Go.IntWalk.i64_in _ (by omega);have htk:M.take (i+1)=M.take i++[M[i]'(by rw[HMX.out];exact hlt)]:=by rw[List.take_add_one,List.getElem?_eq_getElem (by rw[HMX.out];exact hlt)];rfl
    rw[hgt]at htk;clear hgt;obtain⟨k,hkk⟩:∃k,k=(at'+i)%L.length:=⟨_,rfl⟩;rw[<-hkk]at e3 i2 hk;have htk':M.take (i+1)=M.take i++[L[k]]:=by rw[htk];simp only[hkk]
    have HTK:=hid htk';have hki:(k:Int)<(L.length:Int):=by omega
    have q0:=(hb.cell (p:=⟨p,0,none⟩) hp).trans p0;have q1:=(hb.cell (p:=⟨p,1,none⟩) hp).trans p1;have q2:=(hb.cell (p:=⟨p,2,none⟩) hp).trans p2;have H3:=H.out.keep (hb.block p hp) (λb _ hl=>hb.block b hl);obtain⟨b,off,rfl,hB,k0,k1,k2,k3,k4⟩:=(H3.rows.arr qa3.enc_len).link hk;have hpw:p<wr.heap.size:=by omega
    have hL2:¬L.length=0:=by omega
    have hL3:¬L=[]:=λh0=>by rw[h0]at hL2;exact hL2 rfl
    have hL0:¬(L.length:Int)=0:=by omega
    have hL1:((L.length:Int)==0)=false:=by rw[beq_eq_false_iff_ne];exact hL0
    have hlti:(i:Int)<(n:Int):=by omega
    have HX:=hid (show L[k].val=.agg #[.string L[k].key,.int .u64 (L[k].id:Int),.int .u64 (L[k].ver:Int),.int .i64 L[k].line,.int .i64 L[k].cls]from rfl);have HLN:=hid hln;have hiN:i+1<=1000000:=by have:=hfit.1;omega
    clear hown hb htk htk' H3 hkk p0 p1 p2 hfit hln;go_upto_region 5 with fail;obtain⟨i0,hi0,hz0,hz1,hz2⟩:=info_parts qct;have HI0:=hid hi0;have HZ0:=hid hz0;have HZ1:=hid hz1;have HZ2:=hid hz2;clear hi0 hz0 hz1 hz2;go_region_law (refine qbe (l:=N) (m:=[L[k]]) (A:=A') (c:=c') (lo:=w.heap.size) _ rfl (.tmp 12) (.tmp 31) 141 rfl i0 _ 48 underlying141 HI0.out HZ0.out HZ1.out HZ2.out rfl (by decide) qa3.enc_len qa3.enc_one (by simp[Act.eval]) (by first|exact HO.out.alloc _|exact HO.out.drew.alloc _|exact(HO.out.alloc _).drew) (A2:=some ⟨wr.heap.size,0,none⟩) 1 (by simp[Act.eval]) (qdu (x:=L[k]) (by first|(rw[qa2,if_pos (by simp)];rfl)|(show(World.alloc _ _).heap[_]? =_;rw[qa2,if_pos (by simp)];rfl))) (by have:=HLN.out;unfold maxLen;simp;omega) (by have:=HLN.out;simp;omega) (by have:=HB.out.size;simp;omega) ?_;intro A5 c5 w5 hown5 hgr5 hloc5);all_goals
     have b5:Below w.heap.size w w5:=qck (by first|exact HO.out.alloc _|exact HO.out.drew.alloc _|exact(HO.out.alloc _).drew) hgr5 (by first|exact HB.out.alloc hsz _|exact HB.out.drew.alloc hsz _|exact(HB.out.alloc hsz _).drew) (by simp;omega);have HB5:=hid b5;have HO5:=hid hown5;clear b5 hown5 hgr5 hloc5;go_wp2_with fail;exact⟨⟨i+1,A5,c5,N++[L[k]],by omega,by go_num,by simp,hid (by rw[HTK.out,HN.out]),HO5.out,HB5.out⟩,by simp[intOf];omega⟩
  · obtain rfl:i=n:=by omega
    have hall:M.take i=M:=List.take_of_length_le (by rw[HMX.out];exact Nat.le_refl _);have HALL:=hid hall;have HLN:=hid hln;clear hown hb hall hln;go_wp2_with fail;go_ret;have e:N=M:=HN.out.trans HALL.out;subst e;exact⟨A',c',rfl,HO.out,HB.out⟩
theorem qll(w:World)(lo p:Nat)(A:Option Addr)(c:Nat)(Q:List qa3)(x:qa3)(h:qmi w lo p A c Q)(hlow:lo<=w.heap.size)(hL:∀L at' n,qbo w lo p A c L at' n->L.length<=100000):Calls prog 284 #[.pointer (some ⟨p,0,none⟩),x.val] w (qff lo p A c (Q++[x]) w):=by
 obtain⟨L,at',n,h1,rfl⟩:=h;have hl:=hL L at' n h1;have hp:=qa0 h1.box;have H1:=hid h1;have HXV:=hid (show x.val=.agg #[.string x.key,.int .u64 (x.id:Int),.int .u64 (x.ver:Int),.int .i64 x.line,.int .i64 x.cls]from rfl);have T:∀W,Below w.heap.size w W->Calls prog 329 #[.pointer (some ⟨p,0,none⟩),x.val] W (qff lo p A c (qd4 L at' n++[x]) W):=λW hb=>by
  have h2:=H1.out.keep (hb.block p hp) (λb _ hlt=>hb.block b hlt);have hlw:lo<=W.heap.size:=Nat.le_trans hlow hb.size;by_cases hn:n<L.length
  · exact qjw W lo p A c L at' n x h2 hn hlw (by omega)
  · obtain rfl:n=L.length:=by have:=h1.fit.1;omega
    exact qjx W lo p A c L at' x h2 hlw hl
 have HT:=hid T;clear T h1 hL;rw[HXV.out];go_enter func284,ntmps284;go_upto_region 1 with fail;generalize hw1:World.alloc w _=w1;have R1:w1.heap[w.heap.size]? =some (.cells x.enc.toArray 85 (0,0)):=by rw[<-hw1];exact(qa2 _ _ _).trans (if_pos rfl)
 have b1:Below w.heap.size w w1:=by rw[<-hw1];exact(Below.refl _ _).alloc (Nat.le_refl _) _
 have hl1:=qa0 R1;have HB1:=hid b1;have HNR:Hid (∀b,some b=qa8 A c->b<w.heap.size):=hid λb hb=>by
  rcases H1.out.rows.lt with h0|⟨b',off',hA,_,hlt⟩
  · rw[qa8,if_pos h0]at hb;cases hb
  · rw[qa8]at hb
    split at hb
    · cases hb
    · rw[hA]at hb;cases hb;exact hlt
 have r0:=cell_of_row w1 _ 0 _ _ _ R1;have r1:=cell_of_row w1 _ 1 _ _ _ R1;have r2:=cell_of_row w1 _ 2 _ _ _ R1;have r3:=cell_of_row w1 _ 3 _ _ _ R1;have r4:=cell_of_row w1 _ 4 _ _ _ R1;simp only[qa3.enc,List.getElem?_toArray,List.getElem?_cons_zero,List.getElem?_cons_succ]at r0 r1 r2 r3 r4;clear hw1 R1 b1;go_wp2_with fail;go_region_with (go_at_call 329;(try rw[<-HXV.out]);refine(HT.out _ (by first|exact HB1.out|exact HB1.out.drew|exact qa1 HB1.out _)).mono ?_;rintro e w2⟨rfl,hto⟩);all_goals
  have HTO:=hid hto;clear hto;go_wp2_with fail;refine bodyPost_ret (v:=.tuple #[]) (by simp[results,results284]) rfl ⟨rfl,?_⟩;obtain⟨⟨A',c',hq,hloc⟩,hbel,hk,hring⟩:=HTO.out;have hs1:=HB1.out.size;refine⟨⟨A',c',hq,hloc.imp id λ⟨g,off,h1,h2⟩=>⟨g,off,h1,by simp at h2;omega⟩⟩,((HB1.out.mono hlow).trans ⟨hbel.os,hbel.tape,hbel.output,hbel.size,hbel.block⟩),λb hb hbp hbr=>(hk b (by simp;omega) hbp hbr).trans (HB1.out.block b hb),λK hK hQ=>hring K ((hK.same (HB1.out.block p hp))) hQ⟩
end
section
open Go.RowKit
theorem Own.notObj{α:Type}{enc:α->List Value}{e:TypeId}{k:Nat}{w:World}{lo:Nat}{A:Option Addr}{c p:Nat}{l:List α}{o:Obj}(own:Own enc e k w lo A c l)(hb:w.heap[p]? =some o)(hne:∀cs t,o≠ .cells cs t (0,0)):some p≠qa8 A c:=by
 intro h0;rcases own.2.2 with h1|⟨b,off,cur,hA,_,hh,_⟩
 · rw[qa8,if_pos h1]at h0;cases h0
 · rw[qa8]at h0
   split at h0
   · cases h0
   · rw[hA]at h0
     have:p=b:=by simpa using h0
     subst this;rw[hb]at hh;exact hne _ _ (Option.some.inj hh)
theorem Own.grown2{α:Type}{enc:α->List Value}{e:TypeId}{k:Nat}{w w':World}{lo:Nat}{A:Option Addr}{c:Nat}{l:List α}{row:Option Nat}(own:Own enc e k w lo A c l)(hg:w.grownBy w' row)(hne:row=none\/row≠qa8 A c):Own enc e k w' lo A c l:=by
 refine own.keep2 ?_;by_cases hc:c=0
 · exact .inl hc
 · refine .inr λb off hA hlt=>hg.block b hlt λh0=>?_
   rcases hne with rfl|hne
   · cases h0
   · exact hne (by rw[<-h0,qa8,if_neg hc,hA];rfl)
theorem qw7(x:qa3):x.val=.agg #[.string x.key,.int .u64 (x.id:Int),.int .u64 (x.ver:Int),.int .i64 x.line,.int .i64 x.cls]:=rfl
theorem qic{w w':World}{r it:Nat}(h1:w'.heap[r]? =w.heap[r]?)(h2:w'.heap[it]? =w.heap[it]?):w'.rangeLeft r it=w.rangeLeft r it:=by
 unfold World.rangeLeft;rw[h1,h2]
def catB(B:Nat->List qa3):Nat->List qa3
 |0=>[]
 |n+1=>catB B n++B n
theorem qzj(B:Nat->List qa3){i n:Nat}(h:i<=n):(catB B i).length<=(catB B n).length:=by
 induction n with
 |zero =>
  obtain rfl:i=0:=by omega
  exact Nat.le_refl _
 |succ n ih =>
  rcases(by omega:i=n+1\/i<=n)with rfl|h
  · exact Nat.le_refl _
  · rw[catB,List.length_append]
    have:=ih h;omega
def qA4(B:Nat->List qa3)(l:List qa3):Prop:=l.Perm (catB B 8)/\l.Pairwise λx y=>kl y.key x.key=false
def qku(B:Nat->List qa3)(w:World)(e:Ending)(w':World):Prop:=∃A c l,e=.returned (.slice A l.length c)/\Own qa3.enc 85 5 w' w.heap.size A c l/\Below w.heap.size w w'/\qA4 B l
theorem qyl(mb:Nat->Nat){i:Nat}(hi:i<8)(W:World):(Instr.index 196 (.agg #[.map (some (mb 0)),.map (some (mb 1)),.map (some (mb 2)),.map (some (mb 3)),.map (some (mb 4)),.map (some (mb 5)),.map (some (mb 6)),.map (some (mb 7))]) (.int .i64 (i:Int))).run prog W=.ok (.map (some (mb i))) W:=by
 rcases(by omega:i=0\/i=1\/i=2\/i=3\/i=4\/i=5\/i=6\/i=7)with rfl|rfl|rfl|rfl|rfl|rfl|rfl|rfl <;> kernel_rfl
section
variable {F:Nat->Prop}{w:World}{tb:Nat}{mb:Nat->Nat}{B:Nat->List qa3}
theorem qio(h:qbk F w tb mb B)(hl:(catB B 8).length<=900000):Calls prog 60 #[.pointer (some ⟨tb,0,none⟩)] w (qku B w):=by
 have H:=hid h;have HL:=hid hl;have t0:=h.cell (i:=0) (by omega);have t1:=h.cell (i:=1) (by omega);have t2:=h.cell (i:=2) (by omega);have t3:=h.cell (i:=3) (by omega);have t4:=h.cell (i:=4) (by omega);have t5:=h.cell (i:=5) (by omega);have t6:=h.cell (i:=6) (by omega);have t7:=h.cell (i:=7) (by omega);clear h hl;go_enter func60,ntmps60;go_wp2_with fail;clear t0 t1 t2 t3 t4 t5 t6 t7;go_loopw [3,15] (λv3 v15 wr=>∃(i:Nat) (A':Option Addr) (c':Nat) (S:List qa3),i<=8/\v15=.int .i64 i/\v3=.slice A' S.length c'/\Hid (S.Perm (catB B i))/\Own qa3.enc 85 5 wr w.heap.size A' c' S/\Below w.heap.size w wr) (λ_ v15 _=>8-(intOf v15).toNat)
 case atStart=>exact⟨0,none,0,[],by omega,rfl,rfl,hid (List.Perm.refl _),Own.none_,Below.refl _ _⟩
 case round =>
  obtain⟨i,A',c',S,hi,rfl,rfl,HS,hown,hb⟩:=hrel;have HO:=hid hown;have HB:=hid hb;have hsz:=hb.size;by_cases hlt:i<8
  · have hlti:(i:Int)<8:=by omega
    have hid0:=qyl mb hlt wr;have HM:=hid ((H.out.below hb).map i hlt);have HSB:Hid (S.length+(B i).length<=900000):=hid (by
     have:=qzj B (i:=i+1) (n:=8) (by omega)
     rw[catB,List.length_append]at this
     have h2:=HS.out.length_eq
     have:=HL.out
     omega)
    clear hown hb;go_wp2_with((at_range;refine qi8 rfl (.tmp 18) rfl rfl HM.out ?_;intro wI hit hgI hzI));go_frame;obtain⟨wo,hwo⟩:∃x,x=wr:=⟨_,rfl⟩;subst hwo;have HO1:Hid (Own qa3.enc 85 5 wI w.heap.size A' c' S):=hid (HO.out.grown hgI (λ_ _ _=>by simp));have HB1:Hid (Below w.heap.size w wI):=hid (HB.out.grown hgI hsz (λk hk=>by cases hk));have HGI:=hid hgI;have hwz:w.heap.size<=wo.heap.size:=hsz;have hmo:=HM.out.lt;clear hgI;go_loopw [3] (λv3 wx=>∃(A2:Option Addr) (c2:Nat) (S2:List qa3) (I:List Nat),v3=.slice A2 (S2.length) c2/\Hid (S2=S++qld (B i) I)/\Own qa3.enc 85 5 wx w.heap.size A2 c2 S2/\Below w.heap.size w wx/\qkr wx (mb i) wo.heap.size (B i) I) (λ_ wx=>wx.rangeLeft (mb i) wo.heap.size)
    case atStart=>exact⟨A',c',S,[],rfl,hid (by simp[qld]),HO1.out,HB1.out,hit⟩
    case round =>
     obtain⟨A2,c2,S2,I,rfl,HS2,hown2,hb2,hit2⟩:=hrel;have HO2:=hid hown2;have HB2:=hid hb2;have hs2:=hb2.size;have hlI:=hit2.lt;have hrw:some wo.heap.size≠qa8 A2 c2:=λh0=>by
      obtain⟨es,clock,since,seen,c0,_,_,q3,_⟩:=hit2;exact HO2.out.notObj q3 (λ_ _ h=>by cases h) h0
     have hrm:some (mb i)≠qa8 A2 c2:=λh0=>by
      obtain⟨es,clock,since,seen,c0,q1,_⟩:=hit2;exact HO2.out.notObj q1 (λ_ _ h=>by cases h) h0
     have HR:=hid (And.intro hrw hrm);have HIL:Hid (S2.length<=900000):=hid (by
      obtain⟨es,clock,since,seen,c0,_,hm,_,_,_,_,hn,hl,_⟩:=hit2
      have h1:I.length<=(B i).length:=by
       have:=hn.length_le_of_subset (l₂:=List.range (B i).length) (λk hk=>List.mem_range.2 (hl k hk))
       rwa [List.length_range]at this
      have h2:=HSB.out
      rw[HS2.out,List.length_append,qld,List.length_map]
      omega)
     have HIT0:=hid hit2;clear hown2 hb2 hrw hrm;go_wp2_with(first
      |(at_next;refine qji rfl (.tmp 19) rfl rfl HIT0.out ?_ ?_ <;> (try(intro j x wN hx hcont hlt2 hgN hzN hen;have HX:=hid hx;clear hx;rw[qw7 x]at hen ⊢;have HON:=hid (HO2.out.grown2 hgN (.inr HR.out.1));have HGN:=hid hgN;have HIT:=hid hcont;have HLT:=hid hlt2;clear hcont hlt2 hgN)))
      |(at_builtin;refine qdv (l:=S2) (m:=[x]) (A:=A2) (c:=c2) (lo:=w.heap.size) _ rfl (.tmp 24) (.tmp 26) rfl (by simp[Act.eval]) ((HON.out.alloc _).alloc _) (A2:=some ⟨wN.heap.size+1,0,none⟩) 1 (by simp[Act.eval]) (qdu (x:=x) (by rw[qa2,if_pos (by simp)];rfl)) (by have:=HIL.out;simp;omega) (by simp;omega) ?_;intro A5 c5 w5 hown5 hgr5 hloc5))
     · intro hperm
       have HNX:Hid (S2.Perm (catB B (i+1))):=hid (by rw[HS2.out];exact HS.out.append hperm);clear hperm;go_wp2_with fail;exact⟨⟨i+1,A2,c2,S2,by omega,by go_num,rfl,HNX,HO2.out,HB2.out⟩,by simp[intOf];omega⟩
     · have hsN:wr.heap.size<=wN.heap.size:=HGN.out.size
       have bN:Below w.heap.size w wN:=HB2.out.grown HGN.out hs2 (λk hk=>by cases hk;exact hwz);have b5:Below w.heap.size w w5:=qck ((HON.out.alloc _).alloc _) hgr5 ((bN.alloc (by omega) _).alloc (by simp;omega) _) (by simp;omega);have hk5:∀k,k<wN.heap.size->some k≠qa8 A2 c2->w5.heap[k]? =wN.heap[k]? :=λk hk hne=>(hgr5.block k (by simp;omega) hne).trans ((Below.heap_alloc _ _ _ (by simp;omega)).trans (Below.heap_alloc _ _ _ hk))
       have e1:=hk5 (mb i) (by omega) HR.out.2;have e2:=hk5 wo.heap.size (by omega) HR.out.1;refine⟨⟨A5,c5,S2++[x],I++[j],by simp,hid (by rw[HS2.out,HX.out];simp[qld]),hown5,b5,HIT.out.same e1 e2⟩,?_⟩;rw[qic e1 e2];exact HLT.out
  · obtain rfl:i=8:=by omega
    have HSP:=hid HS.out;have hSl:S.length<=900000:=by rw[HS.out.length_eq];exact HL.out
    clear hown hb;go_wp2_with fail;refine(qjr S A' c' w.heap.size wr HO.out (by omega)).mono ?_;rintro e w2⟨rfl,l',hp,hw,hown,honly⟩;have HO2:=hid hown;have HPW:=hid (And.intro hp hw);have HB2:Hid (Below w.heap.size w w2):=hid (HB.out.trans ⟨honly.os,honly.tape,honly.output,honly.size,λk hk=>honly.block k (by omega) λh0=>by
     rcases HO.out.lt with h1|⟨b,off,hA,hlo,_⟩
     · rw[qa8,if_pos h1]at h0;cases h0
     · rw[qa8]at h0
       split at h0
       · cases h0
       · rw[hA]at h0;simp at h0;omega⟩)
    have hll:l'.length=S.length:=hp.length_eq;have HLL:=hid hll;clear hp hw hown honly hll;go_wp2_with fail;go_ret;exact⟨A',c',l',by rw[HLL.out];rfl,HO2.out,HB2.out,HPW.out.1.trans HSP.out,HPW.out.2⟩
end
end
end Go.Proofs.YtecikkjbnkhhkaaGreat
