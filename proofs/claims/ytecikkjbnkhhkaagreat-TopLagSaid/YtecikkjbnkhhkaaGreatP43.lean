/- A part of the walk. -/
import Derived.Test.YtecikkjbnkhhkaaGreatP41
import Derived.Test.YtecikkjbnkhhkaaGreatP42
namespace Go.Proofs.YtecikkjbnkhhkaaGreat
open _root_.Go.Proofs.Tryz
set_option maxHeartbeats 4000000
set_option maxRecDepth 100000
section
open Go.RowKit
def evL(k t l:Int)(cl:qa7)(kA:Option Addr)(kn kc:Nat):List Value:=[.int .i64 k,.int .i64 t,.int .i64 l,.int .i64 cl.kind,.string cl.key,.string cl.val,.string cl.tx,.slice cl.gA cl.gn cl.gc,.slice kA kn kc]
theorem qf0{Pr:Program}(w:World){ops:Array Oper}{o:Oper}{a:Act}{K:Act->World->Prop}{Q:Exit->Act->World->Prop}{E:Prop}(hgd:o.guard=none)(ty:TypeId)(x:Operand)(ho:o.op=.load ty x)(b off:Nat)(hx:a.eval x=.pointer (some ⟨b,off,none⟩))(cs:List Value)(d:TypeDesc)(hc:w.rangeAt b off cs)
 (hu:Pr.underlying ty=some d) (hd:d.isRow=true) (hi:(Pr.info? ty).map (·.size)=some cs.length) (h:K (a.put o.dst (.agg cs.toArray)) w):if Region.wanted o (yielded ops a.tmps)=true then Oper.wp Pr o a w K Q else E:=by
 have hw:Region.wanted o (yielded ops a.tmps)=true:=by simp[Region.wanted,hgd]
 rw[if_pos hw];exact wp_load_mid ty x ho b off hx cs d hc hu hd hi h
theorem qCi{Pr:Program}(w:World){ops:Array Oper}{o:Oper}{a:Act}{K:Act->World->Prop}{Q:Exit->Act->World->Prop}{E:Prop}(hgd:o.guard=none)(ty:TypeId)(x y:Operand)(ho:o.op=.store ty x y)(b off:Nat)(cells:Array Value)(hx:a.eval x=.pointer (some ⟨b,off,none⟩))(hy:a.eval y=.agg cells)
 (ht:w.there b off cells.size) (hi:(Pr.info? ty).map (·.size)=some cells.size) (h1:cells.all (·.oneCell')=true) (h:K (a.put o.dst undef) (w.setCells b off cells.toList)):if Region.wanted o (yielded ops a.tmps)=true then Oper.wp Pr o a w K Q else E:=by
 have hw:Region.wanted o (yielded ops a.tmps)=true:=by simp[Region.wanted,hgd]
 rw[if_pos hw];exact wp_store_mid ty x y ho b off cells hx hy ht hi h1 h
theorem qdd{Pr:Program}{md:Region.Mode}{l:List Oper}(n:Nat){fuel:Nat}{Q:Exit->Act->World->Prop}{listed:Array Bool}{a:Act}{w:World}(hf:fuel=(l.drop n).length)(hB:Region.seqB md l.toArray (l.drop n).length n listed=true)(h:wpList Pr l.toArray Q (l.drop n) a w):wpAny Pr md l.toArray Q fuel listed a w:=by
 subst hf;exact wpAny_of_seq (l.drop n) n listed a w (λj=>by simp[List.getElem?_drop]) hB h
structure qaz(g:Own8)(w:World)(wb:Nat)(r:Option Nat)(g':Own8)(w':World)(r':Option Nat):Prop where
 same:w'.os=w.os/\w'.tape=w.tape/\w'.output=w.output/\w.heap.size<=w'.heap.size
 blk:∀x,KW g w.heap.size wb r x->w'.heap[x]? =w.heap[x]? /\KW g' w'.heap.size wb r' x
theorem qaz.refl(g:Own8)(w:World)(wb:Nat)(r:Option Nat):qaz g w wb r g w r:=⟨⟨rfl,rfl,rfl,Nat.le_refl _⟩,λ_ h=>⟨rfl,h⟩⟩
theorem qaz.trans{g g1 g2:Own8}{w w1 w2:World}{wb:Nat}{r r1 r2:Option Nat}(h:qaz g w wb r g1 w1 r1)(k:qaz g1 w1 wb r1 g2 w2 r2):qaz g w wb r g2 w2 r2:=
 ⟨⟨k.same.1.trans h.same.1,k.same.2.1.trans h.same.2.1,k.same.2.2.1.trans h.same.2.2.1,Nat.le_trans h.same.2.2.2 k.same.2.2.2⟩,λx hx=>⟨(k.blk x (h.blk x hx).2).1.trans (h.blk x hx).1,(k.blk x (h.blk x hx).2).2⟩⟩
theorem qaz.ext{g g':Own8}{w w':World}{wb:Nat}{r:Option Nat}(e:Ext g g' w w'):qaz g w wb r g' w' r:=
 ⟨⟨e.only.os,e.only.tape,e.only.output,e.only.size⟩,λx hx=>⟨e.nobody hx.1 hx.2.1,by have:=hx.1;have:=e.only.size;omega,(e.old _ hx.1).trans hx.2.1,hx.2.2⟩⟩
theorem qaz.below{g:Own8}{w w':World}{wb:Nat}{r:Option Nat}(h:Below w.heap.size w w'):qaz g w wb r g w' r:=.ext (.below h)
theorem qaz.box{g:Own8}{w w':World}{wb:Nat}{r:Option Nat}(ho:w'.os=w.os/\w'.tape=w.tape/\w'.output=w.output/\w'.heap.size=w.heap.size)(hk:∀j,j≠wb->w'.heap[j]? =w.heap[j]?):qaz g w wb r g w' r:=
 ⟨⟨ho.1,ho.2.1,ho.2.2.1,by rw[ho.2.2.2];exact Nat.le_refl _⟩,λx hx=>⟨hk x hx.2.2.1,by rw[ho.2.2.2];exact hx⟩⟩
theorem qaz.sets{g:Own8}{w:World}{wb:Nat}{r:Option Nat}(o:Nat)(vs:List Value):qaz g w wb r g (w.setCells wb o vs) r:=.box (qc5 _ _ _ _) λ_ hj=>qaa _ _ _ _ _ hj
theorem qaz.cell{g:Own8}{w:World}{wb:Nat}{r:Option Nat}{sb:Nat}(hr:r=some sb)(o:Nat)(v:Value):qaz g w wb r g (w.setCell ⟨sb,o,none⟩ v) r:=
 have hz:(w.setCell ⟨sb,o,none⟩ v).heap.size=w.heap.size:=World.size_setCell ..
 ⟨⟨rfl,rfl,rfl,by rw[hz];exact Nat.le_refl _⟩,λx hx=>⟨Below.heap_setCell _ _ _ _ (λe=>hx.2.2.2 (by rw[hr,e])),by rw[hz];exact hx⟩⟩
def d0:FrD:=⟨[],[],[],[]⟩
theorem qvb:(prog.info? 91).map (·.size)=some thr0.enc.toArray.size:=by kernel_rfl
def qDf(C:CfgC->Prop)(R:qa5->FrD->qa4->qa5->FrD->Prop)(wb a:Nat)(P:qag)(T:List ThrC)(D:Nat->FrD)(steps:Int)(sA:Option Addr)(sc:Nat)(S:List qap)(f:qa5)(d:FrD)(g:Own8)(w:World)(e:Ending)(w':World):Prop:=
 ∃f1 d1 M' f' d' g' c',e=.returned f'.v/\qdm f d f1 d1/\R f1 d1 M' f' d'/\C c'/\WAt g' w' wb a P M' c' T D steps sA sc S/\qaz g w wb (qa8 sA sc) g' w' (qa8 sA sc)/\FrAt (KW g' w'.heap.size wb (qa8 sA sc)) w' f' d'
def qzx(C:CfgC->Prop)(R:qa5->FrD->qa4->qa5->FrD->Prop)(wb a t:Nat)(P:qag)(T:List ThrC)(x:ThrC)(D:Nat->FrD)(steps:Int)(sA:Option Addr)(sc:Nat)(S:List qap)(g:Own8)(w:World)(e:Ending)(w':World):Prop:=e=.returned (.int .i64 0) /\
 ∃f1 d1 M' f' d' g' c' T' D' S',qdm x.f (D t) f1 d1/\R f1 d1 M' f' d'/\C c'/\S'.length=S.length/\WAt g' w' wb a P M' c' T' D' steps sA sc S'/\qaz g w wb (qa8 sA sc) g' w' (qa8 sA sc) /\
  ((¬f'.phase=7/\T'=T.set t {x with f:=f'}/\D'=updD D t d')\/(f'.phase=7/\T'=T.set t thr0/\D'=updD D t d0))
theorem qv7{D:Nat->FrD}{t:Nat}{d d':FrD}:updD (updD D t d) t d'=updD D t d':=by
 funext i;unfold updD;split <;> rfl
section
variable {g:Own8}{w w':World}{wb a t:Nat}{P:qag}{M:qa4}{c:CfgC}{T:List ThrC}{D:Nat->FrD}{steps:Int}{sA:Option Addr}{sc:Nat}{S:List qap}{C:CfgC->Prop}{R:qa5->FrD->qa4->qa5->FrD->Prop}
theorem qDg(h:WAt g w wb a P M c T D steps sA sc S)(hth:c.th<=4)(ht:t<c.th)(htT:t<T.length){k l:Int}{cl:qa7}{kA:Option Addr}{kn kc:Nat}(hbusy:T[t].busy=true){si:Nat}(hst:T[t].st=(si:Int))(hsi:si<S.length)(hsb:S.length<=100000)(hstep:steps+1<=1000000/\0<=steps)
 (HS:∀W,Below w.heap.size w W->Calls prog 82 #[.pointer (some ⟨wb,0,none⟩),.int .i64 (t:Int),.agg T[t].f.enc.toArray] W (qDf C R wb a P T D steps sA sc S T[t].f (D t) g W)):
 Calls prog 54 #[.pointer (some ⟨wb,0,none⟩),.agg #[.int .i64 k,.int .i64 (t:Int),.int .i64 l,.int .i64 cl.kind,.string cl.key,.string cl.val,.string cl.tx,.slice cl.gA cl.gn cl.gc,.slice kA kn kc]] w (qzx C R wb a t P T T[t] D steps sA sc S g w):=by
 have H:=hid h;have HHS:=hid HS;clear h HS;go_enter func54,ntmps54;go_upto_region 1 with fail;generalize hw1:World.alloc _ _=w1;have R0:w1.heap[w.heap.size]? =some (.cells (evL k (t:Int) l cl kA kn kc).toArray 42 (0,0)):=by rw[<-hw1];exact qaq _ _
 have b1:Below w.heap.size w w1:=by rw[<-hw1];exact(Below.refl _ _).alloc (Nat.le_refl _) _
 have h1:=H.out.below b1;have k1:w1.cell? ⟨w.heap.size,1,none⟩=some (.int .i64 (t:Int)):=cell_of_row w1 _ 1 _ _ _ R0;have hl0:=qa0 R0;have TT:=hid (qdn h1.bx t ht hth);have HB1:=hid b1;have HR0:=hid R0;have H1:=hid h1;clear hw1 b1 R0;go_wp2_with fail;refine TT.out.mono ?_;rintro e w2⟨rfl,he⟩;rw[he];clear he TT;have hbz:w1.cell? ⟨wb,8+t*30,none⟩=some (.bool true):=by have:=h1.bx.thr htT 0 (by omega) rfl;rw[<-hbusy];exact this
 have hl:=h1.bx.lt;have HRG:=hid (show w1.drew.rangeAt wb (8+t*30+1) T[t].f.enc from λj v hv=>by
  have hj:j<28:=by have:=(List.getElem?_eq_some_iff.1 hv).1;rw[qa5.enc_len]at this;exact this
  have:=H1.out.bx.thr htT (1+j) (v:=v) (by omega) (by
   show(Value.bool T[t].busy::(T[t].f.enc++[Value.int .i64 T[t].st]))[1+j]? =_
   rw[Nat.add_comm,List.getElem?_cons_succ,List.getElem?_append_left (by rw[qa5.enc_len];exact hj)];exact hv)
  rw[show 8+t*30+1+j=8+t*30+(1+j)by omega]
  exact this)
 clear h1;go_upto_region 6 with fail;have HRW:Hid (∀W,Below w1.heap.size w1 W->W.rangeAt wb (8+t*30+1) T[t].f.enc):=hid λW hW j v hv=>(hW.cell (p:=⟨wb,8+t*30+1+j,none⟩) hl).trans (HRG.out j v hv)
 have HSW:Hid (∀W,Below w1.heap.size w1 W->Calls prog 82 #[.pointer (some ⟨wb,0,none⟩),.int .i64 (t:Int),.agg T[t].f.enc.toArray] W (qDf C R wb a P T D steps sA sc S T[t].f (D t) g W)):=hid λW hW=>HHS.out W (HB1.out.trans (hW.mono HB1.out.size))
 have HSQ:=hid (show qa8 sA sc≠some w.heap.size from λe=>by have:=qfp H.out.st.1 e;omega);have HGQ:=hid (H.out.ar.far w.heap.size (Nat.le_refl _));have hwq:wb≠w.heap.size:=by have:=H.out.bx.lt;omega
 have HW1G:=hid (show g wb=0 from H.out.gb);go_cut [] (λwx=>∃f1 d1 M' f' d' g' c',qdm T[t].f (D t) f1 d1/\(R f1 d1 M' f' d'/\C c')/\WAt g' wx wb a P M' c' (T.set t {T[t]with f:=f'}) (updD D t d') steps sA sc S/\qaz g w wb (qa8 sA sc) g' wx (qa8 sA sc)/\wx.heap[w.heap.size]? =some (.cells (evL k (t:Int) l cl kA kn kc).toArray 42 (0,0)))
 case first =>
  refine wp_region_any (by kernel_rfl) ?_;change wpAny _ _ _ _ _ _ _ (World.drew _);refine wpAny_take (i:=0) (v:=?_) rfl (by kernel_rfl) (by kernel_rfl) (by kernel_rfl) (λ_ _ _ h=>h) (Or.inl ⟨by rfl,?_⟩) ?_;rotate_left
  · (intro wz;go_simp;(try with_reducible rfl))
  (try simp only[Act.put,List.setIfInBounds_toArray]);refine wpAny_take (i:=1) (v:=?_) rfl (by kernel_rfl) (by kernel_rfl) (by kernel_rfl) (λ_ _ _ h=>h) (Or.inl ⟨by rfl,?_⟩) ?_;rotate_left
  · (intro wz;go_simp;(try with_reducible rfl))
  (try simp only[Act.put]);refine wpAny_take (i:=2) (v:=?_) rfl (by kernel_rfl) (by kernel_rfl) (by kernel_rfl) (λ_ _ _ h=>h) (Or.inl ⟨by rfl,?_⟩) ?_;rotate_left
  · (intro wz;go_simp;(try with_reducible rfl))
  (try simp only[Act.put]);refine wpAny_take (i:=4) (v:=?_) rfl (by kernel_rfl) (by kernel_rfl) (by kernel_rfl) (λ_ _ _ h=>h) (Or.inl ⟨by rfl,?_⟩) ?_;rotate_left
  · (intro wz;go_simp;(try with_reducible rfl))
  (try simp only[Act.put]);refine wpAny_take (i:=5) (v:=?_) rfl (by kernel_rfl) (by kernel_rfl) (by kernel_rfl) (λ_ _ _ h=>h) (Or.inl ⟨by rfl,?_⟩) ?_;rotate_left
  · (intro wz;go_simp;(try with_reducible rfl))
  (try simp only[Act.put]);refine wpAny_take (i:=6) (v:=?_) rfl (by kernel_rfl) (by kernel_rfl) (by kernel_rfl) (λ_ _ _ h=>h) (Or.inl ⟨by rfl,?_⟩) ?_;rotate_left
  · (intro wz;go_simp;(try with_reducible rfl))
  (try simp only[Act.put]);have k1':w1.drew.cell? ⟨w.heap.size,1,none⟩=some (.int .i64 (t:Int)):=k1;refine wpAny_ready (rs:=[3,7]) (by kernel_rfl) (by simp) ?_;refine AllReady.cons rfl (λK hK=>?_) (AllReady.cons rfl (λK hK=>?_) AllReady.nil)
  · rw[if_pos (by rfl)]
    go_simp;refine hK _ _ ?_;clear hK K;(try simp only[List.getElem_toArray,List.getElem_cons_succ,List.getElem_cons_zero,Act.put,List.setIfInBounds_toArray,List.set_cons_zero,List.set_cons_succ]);refine wpAny_ready (rs:=[7]) (by kernel_rfl) (by simp) ?_;refine AllReady.cons rfl (λK hK=>?_) AllReady.nil;refine qf0 _ rfl 89 (.tmp 29) rfl wb (8+t*30+1) (by first|rfl|simp[Act.eval]) T[t].f.enc _ (HRW.out _ (by with_reducible repeat(first|exact Below.refl _ _|assumption|refine Below.drew ?_|refine qa1 ?_ _|refine Below.alloc ?_ (by first|omega|simp <;> omega) _|refine Below.setCell ?_ (by first|omega|simp <;> omega) _))) underlying89 rfl qaf ?_;refine hK _ _ ?_;clear hK K;(try simp only[List.getElem_toArray,List.getElem_cons_succ,List.getElem_cons_zero,Act.put,List.setIfInBounds_toArray,List.set_cons_zero,List.set_cons_succ]);refine qdd 8 rfl (by kernel_rfl) ?_;simp only[List.drop_succ_cons,List.drop_zero];go_wp2_with fail;refine(HSW.out w1.drew (Below.refl _ _).drew).mono ?_;rintro e w3⟨f1,d1,M',f',d',g',c',rfl,hs,hr,hc,hw3,K3,hf3⟩;have HSR:=hid (And.intro hs (And.intro hr hc));have HW4:=hid (hw3.setF htT hf3);have HK4:=hid (((qaz.below (g:=g) (wb:=wb) (r:=qa8 sA sc) HB1.out.drew).trans K3).trans (qaz.sets (8+t*30+1) f'.enc));have HR4:=hid ((qaa wb f'.enc (8+t*30+1) w3 w.heap.size hwq.symm).trans ((K3.blk w.heap.size ⟨hl0,HGQ.out,hwq.symm,HSQ.out⟩).1.trans HR0.out));have TH3:=hid (hw3.bx.there (o:=8+t*30+1) (n:=f'.enc.toArray.size) (by rw[List.size_toArray,f'.enc_len];have:=hw3.bx.len;omega));clear hs hr hc K3 hw3 hf3;go_wp2_with(refine wpList_store_mid rfl 89 (.tmp 33) (.tmp 31) rfl wb (8+t*30+1) f'.enc.toArray (by first|rfl|simp[Act.eval]) (by first|rfl|simp[Act.eval]) TH3.out qaf (all_oneCell_toArray f'.enc_one) ?_);go_meet;exact⟨f1,d1,M',f',d',g',c',HSR.out.1,HSR.out.2,HW4.out,HK4.out,HR4.out⟩
  · refine qf0 _ rfl 89 (.tmp 29) rfl wb (8+t*30+1) (by first|rfl|simp[Act.eval]) T[t].f.enc _ (HRW.out _ (by with_reducible repeat(first|exact Below.refl _ _|assumption|refine Below.drew ?_|refine qa1 ?_ _|refine Below.alloc ?_ (by first|omega|simp <;> omega) _|refine Below.setCell ?_ (by first|omega|simp <;> omega) _))) underlying89 rfl qaf ?_
    refine hK _ _ ?_;clear hK K;(try simp only[List.getElem_toArray,List.getElem_cons_succ,List.getElem_cons_zero,Act.put,List.setIfInBounds_toArray,List.set_cons_zero,List.set_cons_succ]);refine wpAny_ready (rs:=[3]) (by kernel_rfl) (by simp) ?_;refine AllReady.cons rfl (λK hK=>?_) AllReady.nil;rw[if_pos (by rfl)];go_simp;refine hK _ _ ?_;clear hK K;(try simp only[List.getElem_toArray,List.getElem_cons_succ,List.getElem_cons_zero,Act.put,List.setIfInBounds_toArray,List.set_cons_zero,List.set_cons_succ]);refine qdd 8 rfl (by kernel_rfl) ?_;simp only[List.drop_succ_cons,List.drop_zero];go_wp2_with fail;refine(HSW.out w1.drew (Below.refl _ _).drew).mono ?_;rintro e w3⟨f1,d1,M',f',d',g',c',rfl,hs,hr,hc,hw3,K3,hf3⟩;have HSR:=hid (And.intro hs (And.intro hr hc));have HW4:=hid (hw3.setF htT hf3);have HK4:=hid (((qaz.below (g:=g) (wb:=wb) (r:=qa8 sA sc) HB1.out.drew).trans K3).trans (qaz.sets (8+t*30+1) f'.enc));have HR4:=hid ((qaa wb f'.enc (8+t*30+1) w3 w.heap.size hwq.symm).trans ((K3.blk w.heap.size ⟨hl0,HGQ.out,hwq.symm,HSQ.out⟩).1.trans HR0.out));have TH3:=hid (hw3.bx.there (o:=8+t*30+1) (n:=f'.enc.toArray.size) (by rw[List.size_toArray,f'.enc_len];have:=hw3.bx.len;omega));clear hs hr hc K3 hw3 hf3;go_wp2_with(refine wpList_store_mid rfl 89 (.tmp 33) (.tmp 31) rfl wb (8+t*30+1) f'.enc.toArray (by first|rfl|simp[Act.eval]) (by first|rfl|simp[Act.eval]) TH3.out qaf (all_oneCell_toArray f'.enc_one) ?_);go_meet;exact⟨f1,d1,M',f',d',g',c',HSR.out.1,HSR.out.2,HW4.out,HK4.out,HR4.out⟩
 obtain⟨f1,d1,M',f',d',g',c',hs,hr,w4,k4,r4⟩:=hcut;obtain⟨w3,hw3⟩:∃x,x=wc:=⟨_,rfl⟩;subst hw3;have HSR:=hid (And.intro hs hr);have H4:=hid w4;have HK4:=hid k4;have htT':t<(T.set t {T[t]with f:=f'}).length:=by rw[List.length_set];exact htT
 have hgt:(T.set t {T[t]with f:=f'})[t]= {T[t]with f:=f'}:=List.getElem_set_self ..;have HGT:=hid hgt;have cph:w3.cell? ⟨wb,8+t*30+1+5,none⟩=some (.int .i64 f'.phase):=w4.bx.thr htT' 6 (by omega) (by rw[hgt];rfl);have hl3:=w4.bx.lt;have HST:=hid (And.intro hst hsi);clear hs hr w4 k4 r4 H1 HR0 HB1 HRG HRW HSW HHS hbz hl hl0 k1 HGQ HW1G hwq H HSQ;by_cases h7:f'.phase=7
 · have hb7:(f'.phase==7)=true:=by rw[beq_iff_eq];exact h7
   have H7:=hid h7;clear h7;have hw:=H4.out;have c131:w3.cell? ⟨wb,131,none⟩=some (.slice sA S.length sc):=hw.bx.tail 3 rfl;have c128:w3.cell? ⟨wb,128,none⟩=some (.int .i64 steps):=hw.bx.tail 0 rfl;have c29:w3.cell? ⟨wb,8+t*30+29,none⟩=some (.int .i64 (si:Int)):=hw.bx.thr htT' 29 (by omega) (by rw[hgt,<-HST.out.1];rfl);have a0:w3.cell? ⟨wb,8+t*30+1+22,none⟩=some (.int .i64 f'.code):=hw.bx.thr htT' 23 (by omega) (by rw[hgt];rfl);have a1:w3.cell? ⟨wb,8+t*30+1+22+1,none⟩=some (.bool f'.found):=hw.bx.thr htT' 24 (by omega) (by rw[hgt];rfl);have a2:w3.cell? ⟨wb,8+t*30+1+22+2,none⟩=some (.string f'.vl):=hw.bx.thr htT' 25 (by omega) (by rw[hgt];rfl);have a3:w3.cell? ⟨wb,8+t*30+1+22+3,none⟩=some (.slice none 0 0):=hw.bx.thr htT' 26 (by omega) (by rw[hgt];rfl);have a4:w3.cell? ⟨wb,8+t*30+1+22+4,none⟩=some (.slice f'.hA f'.hn f'.hc):=hw.bx.thr htT' 27 (by omega) (by rw[hgt];rfl);have a5:w3.cell? ⟨wb,8+t*30+1+22+5,none⟩=some (.int .u64 (f'.aep:Int)):=hw.bx.thr htT' 28 (by omega) (by rw[hgt];rfl);obtain⟨sb,so,hsA⟩:∃sb so,sA=some ⟨sb,so,none⟩:=by
    rcases hw.st.1.arr qap.enc_len with h0|⟨sb,so,h1,_⟩
    · rw[h0]at hsi;simp at hsi
    · exact⟨sb,so,h1⟩
   have HSA:=hid hsA;have e131:w3.cell? ⟨wb,131,none⟩=some (.slice (some ⟨sb,so,none⟩) S.length sc):=by rw[<-hsA];exact c131
   have i1:(0:Int)<=(si:Int):=by omega
   have i2:(si:Int)<(S.length:Int):=by omega
   obtain⟨x,hx⟩:∃x,x=S[si]:=⟨_,rfl⟩;have hsc:¬sc=0:=by have:=hw.st.1.1;omega
   have hrow:qa8 sA sc=some sb:=by rw[hsA,qa8,if_neg hsc];rfl
   obtain⟨cur,hcur⟩:=qef hw.st.1 hrow;have hlsb:=qa0 hcur;have hbw:sb≠wb:=λe=>hw.st.2.2 (by rw[hrow,e])
   have fz:∀o,w3.frozen? ⟨sb,o,none⟩=false:=λo=>frozen_of_row w3 sb o _ _ hcur
   have hcell:∀m v,(qap.enc x)[m]? =some v->w3.cell? ⟨sb,so+si*14+m,none⟩=some v:=λm v hv=>by
    rcases hw.st.1.arr qap.enc_len with h0|⟨b',o',h1,_,hc⟩
    · rw[h0]at hsi;simp at hsi
    · rw[hsA]at h1
      cases h1
      exact hc si hsi m v (by rw[<-hx];exact hv)
   have s6:=hcell 6 _ rfl;have s7:w3.cell? ⟨sb,so+si*14+6+1,none⟩=_:=hcell 7 _ rfl;have s8:w3.cell? ⟨sb,so+si*14+6+2,none⟩=_:=hcell 8 _ rfl;have s9:w3.cell? ⟨sb,so+si*14+6+3,none⟩=_:=hcell 9 _ rfl;have s10:w3.cell? ⟨sb,so+si*14+6+4,none⟩=_:=hcell 10 _ rfl;have s11:w3.cell? ⟨sb,so+si*14+6+5,none⟩=_:=hcell 11 _ rfl;have s13:=hcell 13 _ rfl;have z6:=fz (so+si*14+6);have z7:=fz (so+si*14+6+1);have z8:=fz (so+si*14+6+2);have z9:=fz (so+si*14+6+3);have z10:=fz (so+si*14+6+4);have z11:=fz (so+si*14+6+5);have z13:=fz (so+si*14+13);have hws:IntKind.i64.wrap (steps+1)=steps+1:=Go.IntWalk.i64_in _ (by omega);have HX:=hid hx;have HRW:=hid hrow;clear hw c131 hsA hx hsc hcur hcell hgt hrow;go_upto_region 8 with fail;go_cut [7] (λv7 wx=>v7=.pointer (some ⟨sb,so+si*14,none⟩)/\∃n,wx=w3.drewN n)
   case first =>
    go_quiet (fail);go_wp2_with fail;go_meet;exact⟨rfl,_,rfl⟩
   obtain⟨rfl,nq,hwc⟩:=hcut;rw[hwc];clear hwc;go_wp2_with fail;go_region;generalize hw5:World.setCell _ _ _=w5;have hwd:=H4.out.below (qa1 (Below.refl _ _) (nq+1));have hsA:=HSA.out;have hx:=HX.out;have hgt:=HGT.out;have HSTO:=hid ((((((((hwd.setSt hsA hsi (m:=6) (by omega) (.int .i64 f'.code) {x with code:=f'.code} (by rw[hx];rfl))
    |>.setSt (i:=si) hsA (by rw[List.length_set];exact hsi) (m:=7) (by omega) (.bool f'.found) {x with code:=f'.code,found:=f'.found} (by rw[List.getElem_set_self];rfl))
    |>.setSt (i:=si) hsA (by simp only[List.length_set];exact hsi) (m:=8) (by omega) (.string f'.vl) {x with code:=f'.code,found:=f'.found,vl:=f'.vl} (by rw[List.getElem_set_self];rfl))
    |>.setSt (i:=si) hsA (by simp only[List.length_set];exact hsi) (m:=9) (by omega) (.slice none 0 0) {x with code:=f'.code,found:=f'.found,vl:=f'.vl} (by rw[List.getElem_set_self];rfl))
    |>.setSt (i:=si) hsA (by simp only[List.length_set];exact hsi) (m:=10) (by omega) (.slice f'.hA f'.hn f'.hc) {x with code:=f'.code,found:=f'.found,vl:=f'.vl,hA:=f'.hA,hn:=f'.hn,hc:=f'.hc} (by rw[List.getElem_set_self];rfl))
    |>.setSt (i:=si) hsA (by simp only[List.length_set];exact hsi) (m:=11) (by omega) (.int .u64 (f'.aep:Int)) {x with code:=f'.code,found:=f'.found,vl:=f'.vl,hA:=f'.hA,hn:=f'.hn,hc:=f'.hc,aep:=f'.aep} (by rw[List.getElem_set_self];rfl))
    |>.setSt (i:=si) hsA (by simp only[List.length_set];exact hsi) (m:=13) (by omega) (.int .i64 (steps+1)) {x with code:=f'.code,found:=f'.found,vl:=f'.vl,hA:=f'.hA,hn:=f'.hn,hc:=f'.hc,aep:=f'.aep,ended:=steps+1} (by rw[List.getElem_set_self];rfl)))
   have hsto:=HSTO.out;have hlen5:∀x1 x2 x3 x4 x5 x6 x7:qap,(((((((S.set si x1).set si x2).set si x3).set si x4).set si x5).set si x6).set si x7).length=S.length:=λ_ _ _ _ _ _ _=>by simp only[List.length_set]
   obtain⟨S5,hS5,h5⟩:∃S5:List qap,S5.length=S.length/\WAt g' w5 wb a P M' c' (T.set t {T[t]with f:=f'}) (updD D t d') steps sA sc S5:=by
    rw[<-hw5];exact⟨_,hlen5 _ _ _ _ _ _ _,hsto⟩
   have HS5:=hid hS5;have k5:qaz g' w3 wb (qa8 sA sc) g' w5 (qa8 sA sc):=by
    rw[<-hw5];exact(((((((qaz.below (qa1 (Below.refl _ _) (nq+1))).trans (qaz.cell HRW.out _ _)).trans (qaz.cell HRW.out _ _)).trans (qaz.cell HRW.out _ _)).trans (qaz.cell HRW.out _ _)).trans (qaz.cell HRW.out _ _)).trans (qaz.cell HRW.out _ _)).trans (qaz.cell HRW.out _ _)
   have H5:=hid h5;have HK5:=hid (HK4.out.trans k5);have TH5:=hid (h5.bx.there (o:=8+t*30) (n:=thr0.enc.toArray.size) (by rw[List.size_toArray,ThrC.enc_len];have:=h5.bx.len;omega));have HT0:=hid (all_oneCell_toArray thr0.enc_one);clear hwd hsA hx hw5 HSTO hsto hlen5 hS5 h5 k5 hgt;go_wp2_with(refine wpList_store_mid rfl 91 (.tmp 67) (.tmp 66) rfl wb (8+t*30) thr0.enc.toArray (by first|rfl|simp[Act.eval]) (by first|rfl|simp[Act.eval]) TH5.out qvb HT0.out ?_);go_ret;refine⟨rfl,f1,d1,M',f',d',g',c',_,_,_,HSR.out.1,HSR.out.2.1,HSR.out.2.2,?_,H5.out.setT (t:=t) htT' thr0 qAz,HK5.out.trans (qaz.sets _ _),.inr ⟨H7.out,?_,qv7⟩⟩
   · exact HS5.out
   · exact List.set_set ..
 · have hb7:(f'.phase==7)=false:=by rw[beq_eq_false_iff_ne];exact h7
   have H7:=hid h7;clear h7;go_wp2_with fail;go_ret;exact⟨rfl,f1,d1,M',f',d',g',c',_,_,S,HSR.out.1,HSR.out.2.1,HSR.out.2.2,rfl,H4.out,HK4.out,.inl ⟨H7.out,rfl,rfl⟩⟩
theorem qik(h:WAt g w wb a P M c T D steps sA sc S)(hth:c.th<=4)(ht:t<c.th)(htT:t<T.length){k l:Int}{cl:qa7}{kA:Option Addr}{kn kc:Nat}(hbusy:T[t].busy=true){si:Nat}(hst:T[t].st=(si:Int))(hsi:si<S.length)(hsb:S.length<=100000)(hstep:steps+1<=1000000/\0<=steps)(hk:T[t].f.call.kind=1\/T[t].f.call.kind=2\/T[t].f.call.kind=3\/T[t].f.call.kind=4\/T[t].f.call.kind=5\/T[t].f.call.kind=7)
 (HS:∀W,Below w.heap.size w W->Calls prog (qpc T[t].f.call.kind) #[.pointer (some ⟨a,0,none⟩),.int .i64 (t:Int),T[t].f.v] W (qcy a P R T[t].f (D t) g W)):
 Calls prog 54 #[.pointer (some ⟨wb,0,none⟩),.agg #[.int .i64 k,.int .i64 (t:Int),.int .i64 l,.int .i64 cl.kind,.string cl.key,.string cl.val,.string cl.tx,.slice cl.gA cl.gn cl.gc,.slice kA kn kc]] w (qzx (· =c) R wb a t P T T[t] D steps sA sc S g w):=by
 refine qDg h hth ht htT hbusy hst hsi hsb hstep λW hW=>?_
 have hX:=h.below hW;refine(qmw (hX.bx.head 4 (by omega) rfl) hX.bx.lt hX.ar.far hk (λW' hW'=>HS W' (hW.trans (hW'.mono hW.size)))).mono ?_;rintro e w3⟨f1,d1,M',f',d',g',rfl,hs,hr,A3,E3,F3⟩;exact⟨f1,d1,M',f',d',g',c,rfl,hs,hr,rfl,hX.ext A3 E3,qaz.ext E3,F3.lt.mono λx hx=>⟨hx.2,hx.1.1,by have:=hx.1.2;have:=hX.bx.lt;omega,λe=>by have:=qfp hX.st.1 e;have:=hx.1.2;omega⟩⟩
end
end
section
open Go.RowKit
section
variable {g:Own8}{w w1 wP:World}{wb a:Nat}{P:qag}{M:qa4}{c:CfgC}{T:List ThrC}{D:Nat->FrD}{steps:Int}{sA:Option Addr}{sc:Nat}{S:List qap}
theorem WAt.append(h:WAt g w wb a P M c T D steps sA sc S)(hb:Below w.heap.size w w1){A':Option Addr}{c':Nat}{x:qap}(hown:Own qap.enc 68 14 wP 0 A' c' (S++[x]))(hgr:w1.grownBy wP (qa8 sA sc))(hloc:A'=sA/\c'=sc\/∃y,A'=some ⟨y,0,none⟩/\w1.heap.size<=y):
 WAt g (wP.setCell ⟨wb,131,none⟩ (.slice A' (S++[x]).length c')) wb a P M c T D steps A' c' (S++[x])/\qaz g w wb (qa8 sA sc) g (wP.setCell ⟨wb,131,none⟩ (.slice A' (S++[x]).length c')) (qa8 A' c'):=by
 have h1:=h.below hb;have hz1:=hb.size;have hzP:=hgr.size;have hlw:=h1.bx.lt;have hzQ:(wP.setCell ⟨wb,131,none⟩ (.slice A' (S++[x]).length c')).heap.size=wP.heap.size:=World.size_setCell ..;have hk:∀j,j<w1.heap.size->qa8 sA sc≠some j->wP.heap[j]? =w1.heap[j]? :=λj hj hn=>hgr.block j hj (λe=>hn (by first|exact e|exact e.symm))
 have hkQ:∀j,j≠wb->(wP.setCell ⟨wb,131,none⟩ (.slice A' (S++[x]).length c')).heap[j]? =wP.heap[j]? :=λj hj=>Below.heap_setCell _ _ _ _ hj
 have hrow:∀j,qa8 A' c'=some j->qa8 sA sc=some j\/w1.heap.size<=j:=λj hj=>by
  rcases hloc with⟨rfl,rfl⟩|⟨y,rfl,hy⟩
  · exact .inl hj
  · rw[qa8]at hj
    split at hj
    · cases hj
    · cases hj;exact .inr hy
 have hnw:qa8 A' c'≠some wb:=λe=>by
  rcases hrow wb e with e|e
  · exact h.st.2.2 e
  · omega
 have harP:qa6 g wP a P M:=h1.ar.nobody ⟨hgr.os,hgr.tape,hgr.output,hzP,λj hj hn=>hk j hj (λe=>hn (.inl (h1.st.2.1 j e)))⟩;have hbxP:WBox wP wb c P.dp a T steps sA S.length sc:=h1.bx.same (hk wb hlw h1.st.2.2);refine⟨⟨harP.set0 h1.gb _ _,?_,h1.gb,⟨?_,λj hj=>?_,hnw⟩,λi hi=>?_⟩,⟨⟨?_,?_,?_,?_⟩,λx hx=>?_⟩⟩
 · exact hbxP.setTail (j:=3) (by omega) (.slice A' (S++[x]).length c') rfl
 · by_cases h0:c'=0
   · exact⟨hown.1,hown.2.1,.inl h0⟩
   · exact hown.keep λy off hA _ _=>hkQ y λe=>hnw (by rw[qa8,if_neg h0,hA];show some y=some wb;rw[e])
 · rcases hrow j hj with e|e
   · exact h1.st.2.1 j e
   · exact h1.ar.far j e
 · rw[hzQ]
   exact(((h1.thr i hi).keep (w':=wP.setCell ⟨wb,131,none⟩ (.slice A' (S++[x]).length c')) (by rw[hzQ];exact hzP) λy hy hKy=>(hkQ y hKy.2.2.1).trans (hk y hy hKy.2.2.2))).mono λy hy=>⟨by have:=hy.1;omega,hy.2.1,hy.2.2.1,λe=>by
    rcases hrow y e with e|e
    · exact hy.2.2.2 e
    · have:=hy.1;omega⟩
 · exact hgr.os.trans hb.os
 · exact hgr.tape.trans hb.tape
 · exact hgr.output.trans hb.output
 · rw[hzQ];omega
 · rw[hzQ]
   refine⟨((hkQ x hx.2.2.1).trans (hk x (by have:=hx.1;omega) hx.2.2.2)).trans (hb.block x hx.1),by have:=hx.1;omega,hx.2.1,hx.2.2.1,λe=>?_⟩;rcases hrow x e with e|e
   · exact hx.2.2.2 e
   · have:=hx.1;omega
theorem qo1{g':Own8}{w w':World}{r r':Option Nat}{cl:qa7}{G:List qa7}(h:qbr w w.heap.size cl G)(hg:G=[]\/∃x off,cl.gA=some ⟨x,off,none⟩/\KW g w.heap.size wb r x)(hk:qaz g w wb r g' w' r'):qbr w' w'.heap.size cl G:=by
 refine⟨?_,h.len,h.cap,h.max⟩;rcases hg with h0|⟨x,off,hA,hK⟩
 · exact .inl h0
 · rcases h.arr with h0|⟨b,o,hA',hb,hc⟩
   · exact .inl h0
   · rw[hA]at hA'
     cases hA'
     exact .inr ⟨x,off,hA,(hk.blk x hK).2.1,λi hi j v hv=>(World.cell?_of_block (w:=w) (hk.blk x hK).1).trans (hc i hi j v hv)⟩
theorem qst{W W':World}{q wb:Nat}{v0 v1 v2 v3 v4 v5 v6:Value}(hb:Below W.heap.size W W')(h0:q<W.heap.size)(h1:wb<W.heap.size)
 (h:W.cell? ⟨q,1,none⟩=some v0/\W.cell? ⟨q,3,none⟩=some v1/\W.cell? ⟨q,4,none⟩=some v2/\W.cell? ⟨q,5,none⟩=some v3/\W.cell? ⟨q,6,none⟩=some v4/\W.cell? ⟨q,7,none⟩=some v5/\W.cell? ⟨wb,128,none⟩=some v6):
 W'.cell? ⟨q,1,none⟩=some v0/\W'.cell? ⟨q,3,none⟩=some v1/\W'.cell? ⟨q,4,none⟩=some v2/\W'.cell? ⟨q,5,none⟩=some v3/\W'.cell? ⟨q,6,none⟩=some v4/\W'.cell? ⟨q,7,none⟩=some v5/\W'.cell? ⟨wb,128,none⟩=some v6:=
 have k:∀x o,x<W.heap.size->W'.cell? ⟨x,o,none⟩=W.cell? ⟨x,o,none⟩:=λx o hx=>hb.cell (p:=⟨x,o,none⟩) hx
 ⟨(k _ _ h0).trans h.1,(k _ _ h0).trans h.2.1,(k _ _ h0).trans h.2.2.1,(k _ _ h0).trans h.2.2.2.1,(k _ _ h0).trans h.2.2.2.2.1,(k _ _ h0).trans h.2.2.2.2.2.1,(k _ _ h1).trans h.2.2.2.2.2.2⟩
theorem qz5{W:World}{q wb:Nat}{v v0 v1 v2 v3 v4 v5 v6:Value}(hq:q≠wb)(h:W.cell? ⟨q,1,none⟩=some v0/\W.cell? ⟨q,3,none⟩=some v1/\W.cell? ⟨q,4,none⟩=some v2/\W.cell? ⟨q,5,none⟩=some v3/\W.cell? ⟨q,6,none⟩=some v4/\W.cell? ⟨q,7,none⟩=some v5/\W.cell? ⟨wb,128,none⟩=some v6):
 (W.setCell ⟨wb,131,none⟩ v).cell? ⟨q,1,none⟩=some v0/\(W.setCell ⟨wb,131,none⟩ v).cell? ⟨q,3,none⟩=some v1/\(W.setCell ⟨wb,131,none⟩ v).cell? ⟨q,4,none⟩=some v2/\(W.setCell ⟨wb,131,none⟩ v).cell? ⟨q,5,none⟩=some v3/\(W.setCell ⟨wb,131,none⟩ v).cell? ⟨q,6,none⟩=some v4/\(W.setCell ⟨wb,131,none⟩ v).cell? ⟨q,7,none⟩=some v5/\(W.setCell ⟨wb,131,none⟩ v).cell? ⟨wb,128,none⟩=some v6:=
 have k:∀o,(W.setCell ⟨wb,131,none⟩ v).cell? ⟨q,o,none⟩=W.cell? ⟨q,o,none⟩:=λo=>World.cell?_of_block (Below.heap_setCell _ _ _ _ hq)
 ⟨(k _).trans h.1,(k _).trans h.2.1,(k _).trans h.2.2.1,(k _).trans h.2.2.2.1,(k _).trans h.2.2.2.2.1,(k _).trans h.2.2.2.2.2.1,(World.cell?_setCell_other _ _ _ _ (by intro e;injection e with _ e;omega)).trans h.2.2.2.2.2.2⟩
theorem qz6{W W1 WP:World}{r:Option Nat}{q wb:Nat}{v0 v1 v2 v3 v4 v5 v6:Value}(hb:Below W.heap.size W W1)(hg:W1.grownBy WP r)(h0:q<W.heap.size)(h1:wb<W.heap.size)(hq:r≠some q)(hw:r≠some wb)
 (h:W.cell? ⟨q,1,none⟩=some v0/\W.cell? ⟨q,3,none⟩=some v1/\W.cell? ⟨q,4,none⟩=some v2/\W.cell? ⟨q,5,none⟩=some v3/\W.cell? ⟨q,6,none⟩=some v4/\W.cell? ⟨q,7,none⟩=some v5/\W.cell? ⟨wb,128,none⟩=some v6):
 WP.cell? ⟨q,1,none⟩=some v0/\WP.cell? ⟨q,3,none⟩=some v1/\WP.cell? ⟨q,4,none⟩=some v2/\WP.cell? ⟨q,5,none⟩=some v3/\WP.cell? ⟨q,6,none⟩=some v4/\WP.cell? ⟨q,7,none⟩=some v5/\WP.cell? ⟨wb,128,none⟩=some v6:=
 have k:∀x o,x<W.heap.size->r≠some x->WP.cell? ⟨x,o,none⟩=W.cell? ⟨x,o,none⟩:=λx o hx hr=>(World.cell?_of_block (hg.block x (by have:=hb.size;omega) (λe=>hr (by first|exact e|exact e.symm)))).trans (hb.cell (p:=⟨x,o,none⟩) hx)
 ⟨(k _ _ h0 hq).trans h.1,(k _ _ h0 hq).trans h.2.1,(k _ _ h0 hq).trans h.2.2.1,(k _ _ h0 hq).trans h.2.2.2.1,(k _ _ h0 hq).trans h.2.2.2.2.1,(k _ _ h0 hq).trans h.2.2.2.2.2.1,(k _ _ h1 hw).trans h.2.2.2.2.2.2⟩
theorem WAt.grownBox(h:WAt g w wb a P M c T D steps sA sc S)(hb:Below w.heap.size w w1)(hgr:w1.grownBy wP (qa8 sA sc)):wP.cell? ⟨wb,131,none⟩=some (.slice sA S.length sc)/\(∀o,wP.frozen? ⟨wb,o,none⟩=false)/\wb<wP.heap.size:=by
 have h1:=h.below hb;have hbxP:WBox wP wb c P.dp a T steps sA S.length sc:=h1.bx.same (hgr.block wb h1.bx.lt (λe=>h1.st.2.2 (by first|exact e|exact e.symm)));exact⟨hbxP.tail 3 rfl,hbxP.fr,hbxP.lt⟩
theorem qmb{w:World}{p:Nat}{x:qap}{ty:TypeId}(h:w.heap[p]? =some (.cells x.enc.toArray ty (0,0))):Arr qap.enc 14 w w.heap.size (some ⟨p,0,none⟩) [x]:=.inr ⟨p,0,rfl,qa0 h,λi hi j v hv=>by
 have:i=0:=by simp at hi;exact hi
 subst this
 rw[show 0+0*14+j=j by omega]
 exact(cell_of_row w p j _ _ _ h).trans (by rw[List.getElem?_toArray];exact hv)⟩
end
end
section
open Go.RowKit
theorem qzo(w:World)(lo p dc:Nat)(D:List qab)(h:qbb w lo p dc D)(i:Int)(hi:i<0\/(D.length:Int)<=i):Calls prog 85 #[.pointer (some ⟨p,0,none⟩),.int .i64 i] w λe w'=>e=.returned (.int .i64 2)/\w'=w:=by
 have T0:=hid (qvc w lo p dc D h i hi 0 0);clear h;go_enter func85,ntmps85;go_wp2_with fail;refine T0.out.mono ?_;rintro e w1⟨rfl,he⟩;rw[he];go_wp2_with fail;go_ret;exact⟨rfl,rfl⟩
def qo9(Q:Int->CfgC->qa4->List ThrC->(Nat->FrD)->List qap->Prop)(wb a:Nat)(P:qag)(steps:Int)(r:Option Nat)(g:Own8)(w:World)(e:Ending)(w':World):Prop:=
 ∃code:Int,e=.returned (.int .i64 code)/\∃g' c' M' T' D' sA' sc' S',Q code c' M' T' D' S'/\WAt g' w' wb a P M' c' T' D' steps sA' sc' S'/\qaz g w wb r g' w' (qa8 sA' sc')
section
variable {g:Own8}{w:World}{wb a t:Nat}{P:qag}{M:qa4}{c:CfgC}{T:List ThrC}{D:Nat->FrD}{steps:Int}{sA:Option Addr}{sc:Nat}{S:List qap}
theorem qo9.mono{Q Q':Int->CfgC->qa4->List ThrC->(Nat->FrD)->List qap->Prop}{r:Option Nat}{e:Ending}{w':World}(hq:∀k c' M' T' D' S',Q k c' M' T' D' S'->Q' k c' M' T' D' S')(h:qo9 Q wb a P steps r g w e w'):qo9 Q' wb a P steps r g w e w':=by
 obtain⟨code,h1,g',c',M',T',D',sA',sc',S',h2,h3⟩:=h;exact⟨code,h1,g',c',M',T',D',sA',sc',S',hq _ _ _ _ _ _ h2,h3⟩
def qBr(c:CfgC)(M:qa4)(T:List ThrC)(D:Nat->FrD)(S:List qap)(_:Int)(c':CfgC)(M':qa4)(T':List ThrC)(D':Nat->FrD)(S':List qap):Prop:=c'=c/\T'=T/\D'=D/\S'=S/\∃DD:List qab,DD.length=M.D.length/\M'= {M with D:=DD}
theorem qrf(h:WAt g w wb a P M c T D steps sA sc S)(k t l:Int)(cl:qa7)(kA:Option Addr)(kn kc:Nat):
 Calls prog 56 #[.pointer (some ⟨wb,0,none⟩),.agg (evL k t l cl kA kn kc).toArray] w (qo9 (qBr c M T D S) wb a P steps (qa8 sA sc) g w):=by
 have H:=hid h;clear h;unfold evL;go_enter func56,ntmps56;go_upto_region 1 with fail;generalize hw1:World.alloc _ _=w1;have R0:w1.heap[w.heap.size]? =some (.cells (evL k t l cl kA kn kc).toArray 42 (0,0)):=by rw[<-hw1];exact qaq _ _
 have b1:Below w.heap.size w w1:=by rw[<-hw1];exact(Below.refl _ _).alloc (Nat.le_refl _) _
 have h1:=H.out.below b1.drew;have k2:w1.cell? ⟨w.heap.size,2,none⟩=some (.int .i64 l):=cell_of_row w1 _ 2 _ _ _ R0;have c3:w1.cell? ⟨wb,3,none⟩=some (.pointer (some ⟨P.dp,0,none⟩)):=h1.bx.head 3 (by omega) rfl;have HB1:=hid b1.drew;have H1:=hid h1;clear hw1 b1 R0 h1;go_still_tail 6,(by kernel_rfl);change wpList _ _ _ _ _ (World.drew w1);generalize hw2:World.drew w1=w2;rw[hw2]at HB1 H1;clear hw2 k2 c3;by_cases hl:0<=l/\l<(M.D.length:Int)
 · obtain⟨i,rfl⟩:∃i:Nat,l=(i:Int):=⟨l.toNat,by omega⟩
   have hi:i<M.D.length:=by omega
   have BK:=hid (qx8 w2 0 P.dp P.dc M.D H1.out.ar.dev.2.1 i hi);go_wp2_with fail;refine BK.out.mono ?_;rintro e w3⟨rfl,hd,ho⟩;have ha:=H1.out.ar;obtain⟨g',har,hx⟩:=ha.setDev (qcx.of2 ho.below (λj hj h1 h2=>ho.keep j hj h1 h2) ha.dev.2.2.2.1 ha.dev.2.2.2.2) hd;have H3:=hid (H1.out.ext har hx);have HK:=hid ((qaz.below (g:=g) (wb:=wb) (r:=qa8 sA sc) HB1.out).trans (qaz.ext hx));clear hd ho ha har hx;go_wp2_with fail;go_ret;exact⟨_,rfl,_,_,_,_,_,_,_,_,⟨rfl,rfl,rfl,rfl,_,by rw[List.length_set],rfl⟩,H3.out,HK.out⟩
 · have BK:=hid (qzo w2 0 P.dp P.dc M.D H1.out.ar.dev.2.1 l (by omega))
   go_wp2_with fail;refine BK.out.mono ?_;rintro e w3⟨rfl,he⟩;rw[he];clear he BK;go_wp2_with fail;go_ret;exact⟨_,rfl,_,_,_,_,_,_,_,_,⟨rfl,rfl,rfl,rfl,_,rfl,rfl⟩,H1.out,qaz.below HB1.out⟩
end
end
end Go.Proofs.YtecikkjbnkhhkaaGreat
