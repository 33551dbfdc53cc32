/- A part of the walk. -/
import Derived.Test.YtecikkjbnkhhkaaGreatP45
import Derived.Test.YtecikkjbnkhhkaaGreatP43
namespace Go.Proofs.YtecikkjbnkhhkaaGreat
open _root_.Go.Proofs.Tryz
set_option maxHeartbeats 4000000
set_option maxRecDepth 100000
section
open Go.RowKit
section
variable {g:Own8}{w:World}{a:Nat}{P:qag}{M:qa4}
theorem qDb(h:qa6 g w a P M)(hc:¬M.clo=0):Calls prog 147 #[.pointer (some ⟨P.cp,0,none⟩)] w λe w'=>e=.returned (.int .i64 7)/\w'=w:=by
 have TL:=hid (qe7 P.cp 0 (M.now:Int) w h.clk.1.c0 h.clk.1.lt);have TC:=hid (qtq P.cp 2 (M.clo:Int) 0 (M.now:Int) (by omega) w h.clk.1.c2 (h.clk.1.fr 2) h.clk.1.lt);have hlc:=h.clk.1.lt;clear h;go_enter func147,ntmps147;go_wp2_with fail;refine TL.out.mono ?_;rintro e w1⟨rfl,he⟩;rw[he];clear he;go_wp2_with fail;refine TC.out.mono ?_;rintro e w2⟨rfl,he⟩;rw[he];clear he;go_wp2_with fail;go_ret;exact⟨rfl,rfl⟩
theorem qD6{lo p oc now dur clo:Nat}{owed:List Int}{noted left:List Bool}{step:Value}(h:qbi w lo p oc now dur clo owed noted left step):w.rangeAt p 4 (qx5 noted):=λj v hv=>by
 rw[cell_of_row w p (4+j) _ _ _ h.box,List.getElem?_toArray]
 have hj:=(List.getElem?_eq_some_iff.1 hv).1
 unfold clkC
 rw[List.getElem?_append_left (by simp[qx5]at hj ⊢;omega),List.getElem?_append_left (by simp[qx5]at hj ⊢;omega),List.getElem?_append_right (by simp)]
 rw[<-hv]
 congr 1
 simp
theorem qDi{w:World}{p:Nat}{C:List Value}(h:w.heap[p]? =some (.cells C.toArray 150 (0,0)))(o:Nat)(vs:List Value)(C':List Value)(_hl:C'.length=C.length)(ho:o+vs.length<=C.length)(hin:∀j,j<vs.length->C'[o+j]? =vs[j]?)(hout:∀j,j<o\/o+vs.length<=j->C'[j]? =C[j]?):
 (w.setCells p o vs).heap[p]? =some (.cells C'.toArray 150 (0,0)):=by
 obtain⟨cur',hr,_⟩:=qe3 vs o w _ h;have hth:∀i,i<vs.length->(w.cell? ⟨p,o+i,none⟩).isSome=true:=λi hi=>by
  rw[cell_of_row w p _ _ _ _ h,List.getElem?_toArray,List.getElem?_eq_getElem (by omega)];rfl
 refine qyp hr λj=>?_
 by_cases hj:o<=j/\j<o+vs.length
 · obtain⟨i,rfl⟩:∃i,j=o+i:=⟨j-o,by omega⟩
   rw[World.cell?_setCells_in p vs o w hth i (by omega),hin i (by omega),List.getElem?_eq_getElem (by omega)]
 · rw[World.cell?_setCells_out p vs o w ⟨p,j,none⟩ (λ_ _=>by show j<o\/o+vs.length<=j;omega),cell_of_row w p _ _ _ _ h,List.getElem?_toArray]
   exact(hout j (by omega)).symm
theorem qCc{now dur clo oc n:Nat}{noted left:List Bool}{step:Value}(hn:noted.length=258)(hl:left.length=258)(j:Nat):(clkC now dur clo oc n noted left step)[j]? =if j<4 then([Value.int .u64 (now:Int),.int .u64 (dur:Int),.int .u64 (clo:Int),.slice (some ⟨oc,0,none⟩) n n]:List Value)[j]? else if j<262 then(qx5 noted)[j-4]? else if j<520 then(qx5 left)[j-262]? else[step][j-520]? :=by
 unfold clkC;have e1:(qx5 noted).length=258:=by unfold qx5;rw[List.length_map,hn]
 have e2:(qx5 left).length=258:=by unfold qx5;rw[List.length_map,hl]
 split
 · rw[List.getElem?_append_left (by simp[e1,e2];omega),List.getElem?_append_left (by simp[e1];omega),List.getElem?_append_left (by simpa)]
 · split
   · rw[List.getElem?_append_left (by simp[e1,e2];omega),List.getElem?_append_left (by simp[e1];omega),List.getElem?_append_right (by simp;omega)]
     rfl
   · split
     · rw[List.getElem?_append_left (by simp[e1,e2];omega),List.getElem?_append_right (by simp[e1];omega)]
       simp[e1]
     · rw[List.getElem?_append_right (by simp[e1,e2];omega)]
       simp[e1,e2]
theorem qC6{now dur clo oc n:Nat}{noted left:List Bool}{step:Value}(hn:noted.length=258)(hl:left.length=258):(clkC now dur clo oc n noted left step).length=521:=by
 unfold clkC qx5;simp[hn,hl]
theorem qbi.leftAll{w:World}{lo p oc now dur clo:Nat}{owed:List Int}{noted left:List Bool}{step:Value}(h:qbi w lo p oc now dur clo owed noted left step)(L:List Bool)(hL:L.length=258):qbi (w.setCells p 262 (qx5 L)) lo p oc now dur clo owed noted L step:=by
 have hn:=h.len;have e2:(qx5 L).length=258:=by unfold qx5;rw[List.length_map,hL]
 refine⟨qDi h.box 262 _ _ (by rw[qC6 hn.2.2.1 hL,qC6 hn.2.2.1 hn.2.2.2]) (by rw[qC6 hn.2.2.1 hn.2.2.2,e2];decide) (λj hj=>?_) (λj hj=>?_),(qaa _ _ _ _ _ (Ne.symm h.lo.2.2)).trans h.rows,h.lo,hn.1,hn.2.1,hn.2.2.1,hL⟩
 · rw[qCc hn.2.2.1 hL,if_neg (by omega),if_neg (by omega),if_pos (by omega),show 262+j-262=j by omega]
 · rw[qCc hn.2.2.1 hL,qCc hn.2.2.1 hn.2.2.2]
   rw[e2]at hj;by_cases h4:j<4
   · rw[if_pos h4,if_pos h4]
   · by_cases h5:j<262
     · rw[if_neg h4,if_pos h5,if_neg h4,if_pos h5]
     · have h6:¬j<520:=by omega
       rw[if_neg h4,if_neg h5,if_neg h6,if_neg h4,if_neg h5,if_neg h6]
theorem qbi.notedAll{w:World}{lo p oc now dur clo:Nat}{owed:List Int}{noted left:List Bool}{step:Value}(h:qbi w lo p oc now dur clo owed noted left step)(L:List Bool)(hL:L.length=258):qbi (w.setCells p 4 (qx5 L)) lo p oc now dur clo owed L left step:=by
 have hn:=h.len;have e2:(qx5 L).length=258:=by unfold qx5;rw[List.length_map,hL]
 refine⟨qDi h.box 4 _ _ (by rw[qC6 hL hn.2.2.2,qC6 hn.2.2.1 hn.2.2.2]) (by rw[qC6 hn.2.2.1 hn.2.2.2,e2];decide) (λj hj=>?_) (λj hj=>?_),(qaa _ _ _ _ _ (Ne.symm h.lo.2.2)).trans h.rows,h.lo,hn.1,hn.2.1,hL,hn.2.2.2⟩
 · rw[qCc hL hn.2.2.2,if_neg (by omega),if_pos (by omega),show 4+j-4=j by omega]
 · rw[qCc hL hn.2.2.2,qCc hn.2.2.1 hn.2.2.2]
   rw[e2]at hj;by_cases h4:j<4
   · rw[if_pos h4,if_pos h4]
   · have h5:¬j<262:=by omega
     rw[if_neg h4,if_neg h5,if_neg h4,if_neg h5]
theorem qCd:Tryz.zeroCells147=(qx5 (List.replicate 258 false)).toArray:=by kernel_rfl
theorem qCs(h:qa6 g w a P M)(b o:Nat)(vs:List Value)(hb:b=P.cp\/b=P.oc):qcx g 5 w (w.setCells b o vs):=by
 obtain⟨e1,e2,e3,e4⟩:=qc5 b o vs w;exact⟨e1,e2,e3,by rw[e4];exact Nat.le_refl _,λj _ hn=>qaa _ _ _ _ _ λe=>hn (.inl (hb.elim (λq=>by rw[e,q];exact h.clk.2.1) (λq=>by rw[e,q];exact h.clk.2.2)))⟩
theorem qbi.owedAll{w:World}{lo p oc now dur clo:Nat}{owed:List Int}{noted left:List Bool}{step:Value}(h:qbi w lo p oc now dur clo owed noted left step)(vs:List Value)(hv:vs=List.replicate owed.length (.int .i64 0)):qbi (w.setCells oc 0 vs) lo p oc now dur clo (List.replicate owed.length 0) noted left step:=by
 refine⟨by rw[List.length_replicate];exact(qaa _ _ _ _ _ h.lo.2.2).trans h.box,?_,h.lo,by rw[List.length_replicate];exact h.len⟩;have hvl:vs.length=owed.length:=by rw[hv,List.length_replicate]
 obtain⟨cur',hr,_⟩:=qe3 vs 0 w _ h.rows;have hth:∀i,i<vs.length->(w.cell? ⟨oc,0+i,none⟩).isSome=true:=λi hi=>by
  rw[cell_of_row w oc _ _ _ _ h.rows,List.getElem?_toArray,List.getElem?_map,List.getElem?_eq_getElem (by omega)];rfl
 refine qyp hr λj=>?_
 by_cases hj:j<vs.length
 · have:=World.cell?_setCells_in oc vs 0 w hth j hj
   rw[Nat.zero_add]at this;rw[this,List.getElem?_map,List.getElem?_replicate,if_pos (by omega)];simp only[hv,List.getElem_replicate];rfl
 · rw[World.cell?_setCells_out oc vs 0 w ⟨oc,j,none⟩ (λ_ _=>by show j<0\/0+vs.length<=j;omega),cell_of_row w oc _ _ _ _ h.rows,List.getElem?_toArray,List.getElem?_eq_none (by rw[List.length_map];omega),List.getElem?_eq_none (by rw[List.length_map,List.length_replicate];omega)]
theorem qDy(n:Nat):(Builtin.zeroCells (Value.int .i64 0).cells n).toList=List.replicate n (.int .i64 0):=by
 have e:(Value.int .i64 0).cells=#[.int .i64 0]:=rfl;refine List.ext_getElem? λj=>?_
 simp only[Builtin.zeroCells,e,Array.toList_map,List.getElem?_map];rw[List.getElem?_replicate];by_cases h:j<n
 · simp[h,Nat.mod_one]
 · simp[h]
theorem qDu(h:qa6 g w a P M)(hc:M.clo=0)(hn:M.now<=1000000):Calls prog 147 #[.pointer (some ⟨P.cp,0,none⟩)] w (qDj a P {M with now:=M.now+1,clo:=M.now,left:=M.noted,noted:=List.replicate 258 false,owed:=List.replicate M.owed.length 0,step:=qC9 207 P.cp} 0 g w):=by
 have TL:=hid (qe7 P.cp 0 (M.now:Int) w h.clk.1.c0 h.clk.1.lt);have c2:=h.clk.1.c2;rw[hc]at c2;have TC:=hid (qx2 P.cp 2 0 (M.now:Int) w c2 (h.clk.1.fr 2) h.clk.1.lt);have hlc:=h.clk.1.lt;have H:=hid h;have hmf:∀(fn:Fn) (first cap:Array Value) (W:World),(Instr.makeFunc fn first cap).run prog W=.ok (.func fn first cap) W:=λ_ _ _ _=>rfl
 have hsf:=qCg;clear h c2;go_enter func147,ntmps147;go_wp2_with fail;refine TL.out.mono ?_;rintro e w1⟨rfl,he⟩;rw[he];clear he TL;go_wp2_with fail;refine TC.out.mono ?_;rintro e w2⟨rfl,he⟩;obtain⟨g2,ha2,hx2⟩:=H.out.setClo M.now;rw[<-he]at ha2 hx2;have H2:=hid ha2;have HX2:=hid hx2;have HRG:=hid (qD6 ha2.clk.1);have hl2:=ha2.clk.1.lt;have hnl:=ha2.clk.1.len;clear he hx2 TC;have hnn:(qx5 M.noted).length=258:=by unfold qx5;rw[List.length_map];exact hnl.2.2.1
 have HSZ:=hid (show(prog.info? 147).map (·.size)=some (qx5 M.noted).length by rw[hnn];exact qC8);have HON:Hid ((qx5 M.noted).toArray.all (·.oneCell')=true):=hid (all_oneCell_toArray (by intro v hv;unfold qx5 at hv;obtain⟨b,_,rfl⟩:=List.mem_map.1 hv;rfl));have k3:=ha2.clk.1.leftAll M.noted hnl.2.2.1;have hthr:∀(W:World) (D C:Nat) (O:List Int) (N L:List Bool) (st:Value),qbi W 0 P.cp P.oc (M.now) D C O N L st->∀o n,o+n<=521->W.there P.cp o n:=λW D C O N L st hk o n hon j hj=>by
  have h1:=hk.len;refine⟨?_,hk.fr _⟩;rw[cell_of_row W P.cp _ _ _ _ hk.box,List.getElem?_toArray,List.getElem?_eq_getElem (by rw[qC6 h1.2.2.1 h1.2.2.2];omega)];rfl
 have hnn2:(qx5 M.noted).toArray.size=258:=by rw[List.size_toArray,hnn]
 have HTH:Hid (w2.there P.cp 262 (qx5 M.noted).toArray.size):=hid (hthr _ _ _ _ _ _ _ ha2.clk.1 _ _ (by rw[hnn2];decide));have hz:Tryz.zeroCells147.size=258:=by rw[qCd];kernel_rfl
 have HTH3:Hid ((w2.setCells P.cp 262 (qx5 M.noted).toArray.toList).there P.cp 4 Tryz.zeroCells147.size):=hid (hthr _ _ _ _ _ _ _ k3 _ _ (by rw[hz];decide));have HSZ2:=hid (show(prog.info? 147).map (·.size)=some Tryz.zeroCells147.size by rw[hz];exact qC8);have HON2:Hid (Tryz.zeroCells147.all (·.oneCell')=true):=hid (by rw[qCd];exact all_oneCell_toArray (by intro v hv;unfold qx5 at hv;obtain⟨b,_,rfl⟩:=List.mem_map.1 hv;rfl));have HSZ1:=hid (show(prog.info? 147).map (·.size)=some (qx5 M.noted).toArray.size by rw[hnn2];exact qC8);have k4:=k3.notedAll (List.replicate 258 false) (by rw[List.length_replicate]);have HK4:=hid k4;have HK3:=hid k3;go_upto_region 6 with fail;clear ha2 hthr k3 k4 hz hnn hnn2 hnl;go_upto_region 7 with(first|(refine wpList_load_mid rfl 147 (.tmp 20) rfl P.cp 4 (by first|rfl|simp[Act.eval]) _ _ HRG.out underlying147 rfl HSZ.out ?_)|(refine wpList_store_mid rfl 147 (.tmp 24) (.tmp 21) rfl P.cp 262 (qx5 M.noted).toArray (by first|rfl|simp[Act.eval]) (by first|rfl|simp[Act.eval]) HTH.out HSZ1.out HON.out ?_)|(refine wpList_store_mid rfl 147 (.tmp 26) (.tmp 22) rfl P.cp 4 Tryz.zeroCells147 (by first|rfl|simp[Act.eval]) (by first|rfl|simp[Act.eval]) HTH3.out HSZ2.out HON2.out ?_));rw[show Tryz.zeroCells147.toList=qx5 (List.replicate 258 false)by rw[qCd]];obtain⟨g3,ha3,hx3⟩:=H2.out.setClk (qCs H2.out P.cp 262 (qx5 M.noted) (.inl rfl)) HK3.out;obtain⟨g4,ha4,hx4⟩:=ha3.setClk (qCs ha3 P.cp 4 (qx5 (List.replicate 258 false)) (.inl rfl)) HK4.out;generalize (w2.setCells P.cp 262 (qx5 M.noted)).setCells P.cp 4 (qx5 (List.replicate 258 false))=w4 at ha4 hx4;have H4:=hid ha4;have HX4:=hid (HX2.out.trans (hx3.trans hx4));have c3:=ha4.clk.1.c3;have ha4c:=ha4.clk.1;have hl4:=ha4.clk.1.lt;clear ha3 hx3 ha4 hx4 HRG HSZ HON HTH HTH3 HSZ2 HON2 HSZ1 HK3 HK4;have hoc:=ha4c.rows;have hn4:=ha4c.len;have HCL:Hid (∀ty,(Builtin.clear_ #[23] ty #[.slice (some ⟨P.oc,0,none⟩) M.owed.length M.owed.length]).run prog w4=.ok (.tuple #[]) (w4.setCells P.oc 0 (Builtin.zeroCells (Value.int .i64 0).cells M.owed.length).toList)):=hid λty =>
  qn2 w4 23 3 ty (.int .i64 0) underlying23 (λW=>by kernel_rfl) (by intro v hv;rw[List.mem_singleton.1 hv];rfl) P.oc 0 _ _ hn4.1
   (λj hj=>by
    have hj':j<M.owed.length:=by have e1:(Value.int .i64 0).cells.size=1:=rfl;rw[e1]at hj;omega
    rw[cell_of_row w4 P.oc _ _ _ _ hoc,List.getElem?_toArray,List.getElem?_map,List.getElem?_eq_getElem (show 0+j<M.owed.length by omega)]
    rfl)
   (λj _=>frozen_of_row w4 P.oc _ _ _ hoc)
 have HKO:=hid (ha4c.owedAll _ (qDy M.owed.length));clear ha4c hoc hn4;go_upto_region 8 with(refine qdz _ rfl (.tmp 30) 23 rfl (.slice (some ⟨P.oc,0,none⟩) M.owed.length M.owed.length) (by first|rfl|simp[Act.eval]) (HCL.out _) ?_);obtain⟨g5,ha5,hx5⟩:=H4.out.setClk (qCs H4.out P.oc 0 (Builtin.zeroCells (Value.int .i64 0).cells M.owed.length).toList (.inr rfl)) HKO.out;generalize w4.setCells P.oc 0 (Builtin.zeroCells (Value.int .i64 0).cells M.owed.length).toList=w5 at ha5 hx5;have H5:=hid ha5;have HX5:=hid (HX4.out.trans hx5);have hl5:=ha5.clk.1.lt;have hwn:IntKind.u64.wrap ((M.now:Int)+1)=((M.now+1:Nat):Int):=by rw[IntKind.wrap_u64];omega
 have TS:=hid (qfn P.cp 0 (M.now:Int) ((M.now+1:Nat):Int) w5 ha5.clk.1.c0 (ha5.clk.1.fr 0) hl5);clear ha5 hx5 HCL HKO c3 hl4;go_wp2_with fail;refine TS.out.mono ?_;rintro e w6⟨rfl,he⟩;obtain⟨g6,ha6,hx6⟩:=H5.out.setClk (qCb H5.out 0 _) (H5.out.clk.1.setNow (M.now+1));rw[<-he]at ha6 hx6;have H6:=hid ha6;have HX6:=hid (HX5.out.trans hx6);have c520:=ha6.clk.1.c520;have fr:=ha6.clk.1.fr 520;have hl6:=ha6.clk.1.lt;clear he ha6 hx6 TS;go_wp2_with fail;go_ret;exact⟨rfl,ATo.trans HX6.out (H6.out.setStep _)⟩
end
end
section
open Go.RowKit
def BgM(P:qag)(M:qa4):qa4:={M with now:=M.now+1,clo:=M.now,left:=M.noted,noted:=List.replicate 258 false,owed:=List.replicate M.owed.length 0,step:=qC9 207 P.cp}
def KpR(P:qag)(M M':qa4):Prop:=M'=M\/(M.clo=0/\M'=BgM P M)\/(¬M.clo=0/\ClR P M M')\/M'= {M with rnow:=M.rnow+1}\/RelR M M'
def qCk(P:qag)(M:qa4):Prop:=(M.clo=0/\M.now=M.dur+1)\/(¬M.clo=0/\M.now=M.clo+1/\M.clo=M.dur+1/\qD1 P M.step)
structure KPre(P:qag)(M:qa4):Prop where
 clk:qCk P M
 bag:qC5 M.bag
 ow:0<M.owed.length
 dl:1<M.D.length
 now:M.now<=1000000
 rn:M.rnow<=1000000
structure KpOK(P:qag)(M M':qa4):Prop where
 clk:qCk P M'
 bag:qC5 M'.bag
 now:M.now<=M'.now/\M'.now<=M.now+1
 dur:M.dur<=M'.dur
 rn:M'.rnow<=M.rnow+1
 len:M'.D.length=M.D.length
 ok:∀n th,OkA M n th->OkA M' n th
theorem qEy{P:qag}{M M':qa4}(h:KpR P M M')(k:qCk P M)(b:qC5 M.bag):KpOK P M M':=by
 rcases h with rfl|⟨h0,rfl⟩|⟨h0,L,D,dur,clo,st,rfl,hD,hc⟩|rfl|⟨D,S,bag,owed,noted,rfl,hD,hS,ho,hb⟩
 · exact⟨k,b,⟨Nat.le_refl _,Nat.le_succ _⟩,Nat.le_refl _,Nat.le_succ _,rfl,λ_ _ h=>h⟩
 · have k1:M.now=M.dur+1:=by
    rcases k with⟨_,h⟩|⟨h,_⟩
    · exact h
    · exact absurd h0 h
   refine⟨.inr ⟨?_,rfl,k1,.inl rfl⟩,b,⟨Nat.le_succ _,Nat.le_refl _⟩,Nat.le_refl _,Nat.le_succ _,rfl,λn th h=>?_⟩
   · show ¬M.now=0
     omega
   · exact⟨⟨h.few.t,h.few.q,h.few.qn,h.few.o,h.few.e,h.few.b⟩,h.rise,h.id,h.ver,h.slabs,h.lt,h.lq,⟨h.th.1,by show(List.replicate M.owed.length (0:Int)).length=th;rw[List.length_replicate];exact h.th.2⟩⟩
 · obtain⟨_,k1,k2,k3⟩:¬M.clo=0/\M.now=M.clo+1/\M.clo=M.dur+1/\qD1 P M.step:=by
    rcases k with⟨h,_⟩|h
    · exact absurd h h0
    · exact h
   have hk:∀n th,OkA M n th->OkA {M with left:=L,D:=D,dur:=dur,clo:=clo,step:=st} n th:=λn th h=>by
    have h1:=h.setD hD;exact⟨⟨h1.few.t,h1.few.q,h1.few.qn,h1.few.o,h1.few.e,h1.few.b⟩,h1.rise,h1.id,h1.ver,h1.slabs,h1.lt,h1.lq,h1.th⟩
   rcases hc with⟨rfl,rfl,hs⟩|⟨rfl,rfl⟩
   · exact⟨.inr ⟨h0,k1,k2,hs⟩,b,⟨Nat.le_refl _,Nat.le_succ _⟩,Nat.le_refl _,Nat.le_succ _,hD,hk⟩
   · exact⟨.inl ⟨rfl,k1⟩,b,⟨Nat.le_refl _,Nat.le_succ _⟩,by show M.dur<=M.clo;omega,Nat.le_succ _,hD,hk⟩
 · exact⟨k,b,⟨Nat.le_refl _,Nat.le_succ _⟩,Nat.le_refl _,Nat.le_refl _,rfl,λn th h=>⟨⟨h.few.t,h.few.q,h.few.qn,h.few.o,h.few.e,h.few.b⟩,h.rise,h.id,h.ver,h.slabs,h.lt,h.lq,h.th⟩⟩
 · refine⟨k,hb,⟨Nat.le_refl _,Nat.le_succ _⟩,Nat.le_refl _,Nat.le_succ _,hD,λn th h=>?_⟩
   have h1:=h.upd hD hS (H':=M.H) rfl;exact⟨⟨h1.few.t,h1.few.q,h1.few.qn,h1.few.o,h1.few.e,hb.1⟩,h1.rise,h1.id,h1.ver,h1.slabs,h1.lt,h1.lq,⟨h1.th.1,ho.trans h1.th.2⟩⟩
section
variable {g:Own8}{w:World}{a:Nat}{P:qag}{M:qa4}
def qFf(a:Nat)(P:qag)(M:qa4)(g:Own8)(w:World)(e:Ending)(w':World):Prop:=(∃v,e=.returned v)/\∃M',KpR P M M'/\ATo g w w' a P M'
theorem qEg(h:qa6 g w a P M)(k:KPre P M):Calls prog 147 #[.pointer (some ⟨P.cp,0,none⟩)] w (qFf a P M g w):=by
 by_cases hc:M.clo=0
 · refine(qDu h hc k.now).mono ?_
   rintro e w'⟨rfl,ht⟩;exact⟨⟨_,rfl⟩,_,.inr (.inl ⟨hc,rfl⟩),ht⟩
 · refine(qDb h hc).mono ?_
   rintro e w'⟨rfl,he⟩;rw[he];exact⟨⟨_,rfl⟩,M,.inl rfl,g,h,Ext.refl _ _⟩
def qFe(a:Nat)(P:qag)(M:qa4)(g:Own8)(w:World)(e:Ending)(w':World):Prop:=∃(act:Int) (M':qa4),e=.returned (.tuple #[.int .i64 act,.int .i64 0])/\KpR P M M'/\ATo g w w' a P M'
theorem qCz(h:qa6 g w a P M)(k:KPre P M)(hc:¬M.clo=0):Calls prog 146 #[.pointer (some ⟨P.cp,0,none⟩),.pointer (some ⟨P.dp,0,none⟩)] w (qFe a P M g w):=by
 obtain⟨_,k1,_,k3⟩:¬M.clo=0/\M.now=M.clo+1/\M.clo=M.dur+1/\qD1 P M.step:=by
  rcases k.clk with⟨h,_⟩|h
  · exact absurd h hc
  · exact h
 have hn:=k.now;refine(qEe h hc (by omega) k.dl k3).mono ?_;rintro e w'⟨act,M',rfl,hr,ht⟩;exact⟨act,M',rfl,.inr (.inr (.inl ⟨hc,hr⟩)),ht⟩
end
end
section
open Go.RowKit
section
variable {g g':Own8}{w w':World}{a b lo:Nat}{P:qag}{M:qa4}{f:qa5}{d:FrD}
theorem NobR.sets{t:TypeId}{cs:List Value}(h:NobR g w b t cs)(vs:List Value)(hl:vs.length=cs.length):NobR g (w.setCells b 0 vs) b t vs:=by
 refine⟨?_,h.2⟩;obtain⟨cur',g1,g2,_,_,g5⟩:=qax vs 0 w cs.toArray h.1 (by rw[List.size_toArray];omega);rw[g1];congr 2;refine Array.ext (by rw[g2,List.size_toArray,List.size_toArray,hl]) λi h1 h2=>?_
 have h3:=g5 i vs[i] (List.getElem?_eq_getElem (by simpa using h2));rw[Nat.zero_add]at h3;have h4:=(Array.getElem?_eq_getElem h1).symm.trans h3;simpa using h4
theorem Ext.setsNew(h:Ext g g' w w')(hb:w.heap.size<=b)(o:Nat)(vs:List Value):Ext g g' w (w'.setCells b o vs):=
 have hs:=qam b vs o w'
 ⟨h.old,⟨hs.1.trans h.only.os,hs.2.1.trans h.only.tape,hs.2.2.1.trans h.only.output,by rw[hs.2.2.2];exact h.only.size,λj hj hn=>(qaa _ _ _ _ _ (by show j≠b;omega)).trans (h.only.block j hj hn)⟩⟩
theorem qEa{y:qa7}{Mg:List qa7}{bA pA hA:Option Addr}{bc pc hc n:Nat}(hfar:∀x,n<=x->g x=0)(hcp:qyg f d lo w y Mg bA bc pA pc hA hc)(hlo:n<=lo)(hlo2:lo<=w.heap.size)(hgl:Mg=[]\/∃x off,y.gA=some ⟨x,off,none⟩/\n<=x):
 FrAt (λx=>g x=0/\n<=x) w (f.as y d bA bc pA pc hA hc) {gr:=Mg,bs:=d.bs,ps:=d.ps,hs:=d.hs}:=by
 have hs:∀{α:Type} {enc:α->List Value} {e:TypeId} {k:Nat} {A:Option Addr} {c:Nat} {l:List α},(∀x,(enc x).length=k)->Own enc e k w lo A c l->Sl enc k w w.heap.size A l.length c l/\LocK (λx=>g x=0/\n<=x) A l:=λhk ho =>
  ⟨⟨ho.arr hk,rfl,ho.1,by have:=ho.2.1;unfold maxLen at this;omega⟩,qys ho λx hx=>by have:=qe4 ho x hx;exact⟨hfar x (by omega),by omega⟩⟩
 obtain⟨b1,b2⟩:=hs qbn hcp.byt;obtain⟨p1,p2⟩:=hs qas.enc_len hcp.prt;obtain⟨h1,h2⟩:=hs qfd hcp.hit;exact⟨⟨hcp.grp.more hlo2,b1,p1,h1⟩,hgl.imp id λ⟨x,off,hA,hx⟩=>⟨x,off,hA,hfar x hx,hx⟩,b2,p2,h2⟩
theorem FrAt.clk{K:Nat->Prop}(h:FrAt K w f d)(ph:Int)(ep aep:Nat):FrAt K w {f with phase:=ph,ep:=ep,aep:=aep} d:=⟨⟨h.fin.1,h.fin.2,h.fin.3,h.fin.4⟩,h.grp,h.byt,h.prt,h.hit⟩
theorem FrAt.ext{n:Nat}(h:FrAt (λx=>g x=0/\n<=x) w f d)(e:Ext g g' w w'):FrAt (λx=>g' x=0/\n<=x) w' f d:=
 (h.lt.keep e.only.size λ_x hx hK=>e.nobody hx hK.1.1).mono λx hx=>⟨(e.old x hx.2).trans hx.1.1,hx.1.2⟩
theorem FrAt.off{n q:Nat}(h:FrAt (λx=>g x=0/\n<=x) w f d)(hs:w.heap.size<=w'.heap.size)(hk:∀j,j≠q->w'.heap[j]? =w.heap[j]?)(hq:q<n):FrAt (λx=>g x=0/\n<=x) w' f d:=
 h.keep hs λx _ hK=>hk x (by have:=hK.2;omega)
theorem qCp{fn:Func}{p t:Tmp}(h:fn.results=#[.cell p 89,.tmp t])(tmps:Array Value)(w:World)(b:Nat)(x:qa5)(v:Value)(hp:tmps.getD p undef=.pointer (some ⟨b,0,none⟩))(ht:tmps.getD t undef=v)
 (hb:w.heap[b]? =some (.cells x.enc.toArray 89 (0,0))):(results fn tmps).run prog w=.ok (.tuple #[x.v,v]) w:=by
 rw[qdp h tmps w b x.enc _ hp (qb5 hb) underlying89 rfl qaf,ht];rfl
end
end
end Go.Proofs.YtecikkjbnkhhkaaGreat
