/- A part of the walk. -/
import Derived.Test.YtecikkjbnkhhkaaGreatP08
namespace Go.Proofs.YtecikkjbnkhhkaaGreat
open _root_.Go.Proofs.Tryz
set_option maxHeartbeats 2000000
set_option maxRecDepth 100000
section
open Go.RowKit
theorem qbe{α:Type}{enc:α->List Value}{e:TypeId}{k:Nat}{P:Program}(w:World){ops:Array Oper}{o:Oper}{a:Act}{K:Act->World->Prop}{Q:Exit->Act->World->Prop}{E:Prop}(hgd:o.guard=none)(s x:Operand)(t:TypeId)
 (ho:o.op=.call {callee:=.builtin .append,args:=#[s,x],argTypes:=#[t,t]})
 (i:TypeInfo) (z:Value) (bytes:Nat) (ht:P.underlying t=some (.slice e)) (hi:P.info? e=some i) (hz:i.zero=some z)
 (hsize:i.size=k) (hby:i.bytes=bytes) (hzs:z.cells.size=k) (hk0:0<k) (hk:∀x,(enc x).length=k) (h1:∀x,∀u∈enc x,u.oneCell'=true)
 {lo:Nat} {A:Option Addr} {c:Nat} {l:List α} (hs:a.eval s=.slice A l.length c) (own:Own enc e k w lo A c l) {B:Nat} {A2:Option Addr} {m:List α} (c2:Nat) (hx:a.eval x=.slice A2 m.length c2) (arr:Arr enc k w B A2 m)
 (h63:l.length+m.length<=maxLen) (hbytes:(l.length+m.length)*bytes<=140737488355328) (hlo:lo<=w.heap.size)
 (h:∀A' c' w',Own enc e k w' lo A' c' (l++m)->w.grownBy w' (qa8 A c)->(A'=A/\c'=c\/∃g,A'=some ⟨g,0,none⟩/\w.heap.size<=g)->K (a.put o.dst (.slice A' (l.length+m.length) c')) w'):
 if Region.wanted o (yielded ops a.tmps)=true then Oper.wp P o a w K Q else E:=by
 have hw:Region.wanted o (yielded ops a.tmps)=true:=by simp[Region.wanted,hgd]
 rw[if_pos hw];obtain⟨A',c',w',hrun,h2,h3,h4⟩:=qeq (P:=P) w t o.type i z bytes ht hi hz hsize hby hzs hk0 hk h1 own arr c2 h63 hbytes hlo;unfold Oper.wp execOp;simp only[ho,resolve,invoke,builtin,Sem.run_bind,Sem.run_pure,Result.andThen_ok,List.map_toArray,List.map_cons,List.map_nil,hs,hx,hrun];exact h A' c' w' h2 h3 h4
theorem qr7{w:World}{vb:Nat}{x:EntC}(hv:w.heap[vb]? =some (.cells x.enc.toArray 334 (0,0))):Arr EntC.enc 5 w w.heap.size (some ⟨vb,0,none⟩) [x]:=by
 refine Arr.of_cells EntC.enc_len ?_ λj u hu=>?_
 · exact qa0 hv
 · rw[Nat.zero_add,cell_of_row w vb j _ _ _ hv,List.getElem?_toArray]
   simpa using hu
theorem Own.rowNe{α:Type}{enc:α->List Value}{e:TypeId}{k:Nat}{w:World}{lo:Nat}{A:Option Addr}{c p:Nat}{l:List α}(own:Own enc e k w lo A c l)(h:∀o,A=some ⟨p,o,none⟩->c=0):some p≠qa8 A c:=λhe=>by
 unfold qa8 at he
 split at he
 · cases he
 · rename_i hc
   rcases own.lt with h0|⟨b,off,rfl, -, -⟩
   · exact hc h0
   · cases he
     exact hc (h off rfl)
theorem Own.offP{α:Type}{enc:α->List Value}{e:TypeId}{k:Nat}{w:World}{lo:Nat}{A:Option Addr}{c p:Nat}{l:List α}(own:Own enc e k w lo A c l)(h:∀o,A=some ⟨p,o,none⟩->c=0)(q:Nat)(u:Value):Own enc e k (w.setCell ⟨p,q,none⟩ u) lo A c l:=by
 obtain⟨h1,h2,h3⟩:=own;refine⟨h1,h2,?_⟩;rcases h3 with h3|⟨b,off,cur,rfl,hlo,hh,hs,hc⟩
 · exact .inl h3
 · by_cases hb:b=p
   · subst hb
     exact .inl (h off rfl)
   · exact .inr ⟨b,off,cur,rfl,hlo,(Below.heap_setCell _ _ _ _ hb).trans hh,hs,hc⟩
def putE(l:List EntC)(x:EntC):List EntC:=if mayE x=true/\l.length<258 then l++[x]else l
def qxo(lo p:Nat)(A:Option Addr)(c:Nat)(l:List EntC)(w:World)(e:Ending)(w':World):Prop:=∃code A' c',e=.returned (.int .i64 code)/\qfi w' lo p A' c' l/\Below lo w w'/\(∀b,b<w.heap.size->b≠p->(∀o,A=some ⟨b,o,none⟩->c=0)->w'.heap[b]? =w.heap[b]?)/\(A'=A/\c'=c\/∃g,A'=some ⟨g,0,none⟩/\w.heap.size<=g)
theorem qr3(w:World)(lo p:Nat)(A:Option Addr)(c:Nat)(l:List EntC)(x:EntC)(h:qfi w lo p A c l)(hap:∀o,A=some ⟨p,o,none⟩->c=0):Calls prog 271 #[.pointer (some ⟨p,0,none⟩),x.val] w (qxo lo p A c (putE l x) w):=by
 have H:=hid h;have HAP:=hid hap;have hp:=qa0 h.box;have hlo:=h.lo;clear h hap;have HXV:=hid (show x.val=.agg #[.int .i64 x.line,.int .i64 x.cls,.int .u64 (x.r:Int),.int .u64 (x.d:Int),.int .i64 x.anti]from rfl);rw[HXV.out];go_enter func271,ntmps271;go_upto_region 1 with fail;generalize hw1:World.alloc w _=w1;have R1:w1.heap[w.heap.size]? =some (.cells x.enc.toArray 334 (0,0)):=by rw[<-hw1];exact(qa2 _ _ _).trans (if_pos rfl)
 have b1:Below w.heap.size w w1:=by rw[<-hw1];exact(Below.refl _ _).alloc (Nat.le_refl _) _
 have HR1:=hid R1;have HB1:=hid b1;have r0:=cell_of_row w1 _ 0 _ _ _ R1;have r1:=cell_of_row w1 _ 1 _ _ _ R1;have r2:=cell_of_row w1 _ 2 _ _ _ R1;have r3:=cell_of_row w1 _ 3 _ _ _ R1;have r4:=cell_of_row w1 _ 4 _ _ _ R1;have hl1:=qa0 R1;clear hw1 R1 b1;simp only[EntC.enc,List.getElem?_toArray,List.getElem?_cons_zero,List.getElem?_cons_succ]at r0 r1 r2 r3 r4;go_wp2_with fail;have TM:=qvx x w1;rw[HXV.out]at TM;refine TM.mono ?_;rintro e w2⟨rfl,b2⟩;have bw2:Below w.heap.size w w2:=HB1.out.trans (b2.mono HB1.out.size);have BX2:=(bw2.block p hp).trans H.out.box;have R2:=(b2.block _ hl1).trans HR1.out;have HOW:=hid (H.out.rows.below bw2);have HBW:=hid bw2;have HBX:=hid BX2;have hp2:=qa0 BX2;have hl2:=qa0 R2;have p0:=cell_of_row w2 p 0 _ _ _ BX2;have fp:=frozen_of_row w2 p 0 _ _ BX2;have HR2:=hid R2;clear r0 r1 r2 r3 r4 TM b2 bw2 BX2;have r0:=cell_of_row w2 _ 0 _ _ _ R2;have r1:=cell_of_row w2 _ 1 _ _ _ R2;have r2:=cell_of_row w2 _ 2 _ _ _ R2;have r3:=cell_of_row w2 _ 3 _ _ _ R2;have r4:=cell_of_row w2 _ 4 _ _ _ R2;simp only[EntC.enc,List.getElem?_toArray,List.getElem?_cons_zero,List.getElem?_cons_succ]at r0 r1 r2 r3 r4;clear R2;cases hm:mayE x with
 |false =>
  have hpe:putE l x=l:=by unfold putE;rw[if_neg (by rw[hm];rintro⟨h, -⟩;cases h)]
  have HPE:=hid hpe;clear hm hpe;go_wp2_with fail;go_ret;exact⟨1,A,c,rfl,by rw[HPE.out];exact⟨HBX.out,HOW.out,hlo⟩,HBW.out.mono (by omega),(λb hb _ _=>HBW.out.block b hb),.inl ⟨rfl,rfl⟩⟩
 |true =>
  by_cases hl:l.length<258
  · have hpe:putE l x=l++[x]:=by unfold putE;rw[if_pos ⟨hm,hl⟩]
    have HPE:=hid hpe;have hli:¬(258:Int)<=(l.length:Int):=by omega
    clear hm hpe;go_upto_region 5 with fail;obtain⟨i0,hi0,hz0,hz1,hz2⟩:=info_parts qj2;have HI:=hid hi0;have HZ0:=hid hz0;have HZ1:=hid hz1;have HZ2:=hid hz2;have HL:=hid hl;clear hi0 hz0 hz1 hz2 hl hli;go_region_law (refine qbe (l:=l) (m:=[x]) (A:=A) (c:=c) (lo:=lo) _ rfl (.tmp 22) (.tmp 24) 224 rfl i0 _ 40 underlying224 HI.out HZ0.out HZ1.out HZ2.out rfl (by decide) EntC.enc_len EntC.enc_one (by simp[Act.eval]) (by first|exact HOW.out.alloc _|exact HOW.out.drew.alloc _|exact(HOW.out.alloc _).drew) (A2:=some ⟨w2.heap.size,0,none⟩) 1 (by simp[Act.eval]) (qr7 (vb:=w2.heap.size) (x:=x) (by first|(rw[qa2,if_pos (by simp)];rfl)|(show(World.alloc _ _).heap[_]? =_;rw[qa2,if_pos (by simp)];rfl))) (by have:=HL.out;unfold maxLen;simp;omega) (by have:=HL.out;simp;omega) (by have:=HBW.out.size;simp;omega) ?_;intro A' c' w3 hown hgr hloc;have B3:w3.heap[p]? =some (.cells #[.slice A l.length c] 226 (0,0)):=(hgr.block p (by first|(simp;omega)|omega) (HOW.out.rowNe HAP.out)).trans ((by first|exact Below.heap_alloc w2 _ _ hp2|exact Below.heap_alloc w2.drew _ _ hp2:_=w2.heap[p]?).trans HBX.out);have e31:=cell_of_row w3 p 0 _ _ _ B3;have f31:=frozen_of_row w3 p 0 _ _ B3;have hp3:=qa0 B3);all_goals
     have hwz:=HBW.out.size;have hA':∀o,A'=some ⟨p,o,none⟩->c'=0:=λo ho=>by
      rcases hloc with⟨rfl,rfl⟩|⟨g,rfl,hg⟩
      · exact HAP.out o ho
      · cases ho
        simp at hg;omega
     have b3:Below lo w w3:=qck (by first|exact HOW.out.alloc _|exact HOW.out.drew.alloc _|exact(HOW.out.alloc _).drew) hgr (by first|exact(HBW.out.mono (by omega)).alloc (by omega) _|exact(HBW.out.mono (by omega)).drew.alloc (by show lo<=w2.heap.size;omega) _|exact((HBW.out.mono (by omega)).alloc (by omega) _).drew) (by simp;omega);have hoth:∀b,b<w.heap.size->b≠p->(∀o,A=some ⟨b,o,none⟩->c=0)->(w3.setCell ⟨p,0,none⟩ (.slice A' (l.length+1) c')).heap[b]? =w.heap[b]? :=λb hb hbp hbA =>
      (Below.heap_setCell _ _ _ _ hbp).trans ((hgr.block b (by simp;omega) (HOW.out.rowNe hbA)).trans ((by first|exact Below.heap_alloc w2 _ _ (by omega)|exact Below.heap_alloc w2.drew _ _ (by show b<w2.heap.size;omega):_=w2.heap[b]?).trans (HBW.out.block b hb)))
     have HFIN:=hid (show qfi (w3.setCell ⟨p,0,none⟩ (.slice A' (l.length+1) c')) lo p A' c' (putE l x)by
      rw[HPE.out]
      exact⟨by rw[List.length_append];exact heap_setCell_same w3 p 0 _ _ (.slice A' (l.length+1) c') B3,hown.offP hA' _ _,hlo⟩)
     have HB3:=hid (b3.setCell (p:=⟨p,0,none⟩) hlo (.slice A' (l.length+1) c'));have HOT:=hid hoth;have HLC:Hid (A'=A/\c'=c\/∃g,A'=some ⟨g,0,none⟩/\w.heap.size<=g):=hid (hloc.imp id λ⟨y,h1,h2⟩=>⟨y,h1,by simp at h2;omega⟩);clear hoth b3 hA' hloc hgr hown;go_wp2;go_ret;exact⟨0,A',c',rfl,HFIN.out,HB3.out,HOT.out,HLC.out⟩
  · have hpe:putE l x=l:=by unfold putE;rw[if_neg (by rintro⟨-,h⟩;exact hl h)]
    have HPE:=hid hpe;have hli:(258:Int)<=(l.length:Int):=by omega
    clear hm hpe hl;go_wp2_with fail;go_ret;exact⟨11,A,c,rfl,by rw[HPE.out];exact⟨HBX.out,HOW.out,hlo⟩,HBW.out.mono (by omega),(λb hb _ _=>HBW.out.block b hb),.inl ⟨rfl,rfl⟩⟩
end
section
open Go.RowKit
def quk(l:List UInt8)(w:World)(e:Ending)(w':World):Prop:=∃A c,e=.returned (.tuple #[.slice A 64 c,.int .i64 0])/\Own byE 5 1 w' w.heap.size A c l/\Below w.heap.size w w'
theorem Own.lineArr{w:World}{lo dc n:Nat}{D:List qab}(h:Own qab.enc 247 193 w lo (some ⟨dc,0,none⟩) n D){i:Nat}(hi:i<D.length):Arr byE 1 w w.heap.size (some ⟨dc,i*193,none⟩) D[i].now:=by
 have hp:=h.part qab.enc_len hi (o:=0) (vs:=byC D[i].now) (by rw[qad,D[i].hn];omega) (λj hj=>by rw[qad,D[i].hn]at hj;rw[Nat.zero_add,qab.e_now _ hj]);refine .inr ⟨dc,i*193,rfl,hp.2.2,λq hq j u hu=>?_⟩;have hj:j=0:=by
  have:=(List.getElem?_eq_some_iff.1 hu).1;rw[qbn]at this;omega
 subst hj;have:=hp.1 q (.int .u8 (D[i].now[q].toNat:Int)) (by rw[byC,List.getElem?_map,List.getElem?_eq_getElem hq];rfl);rw[Nat.mul_one,Nat.add_zero];rw[show 0+i*193+0+q=i*193+q by omega]at this;rw[this];simpa[byE]using hu
theorem qow(w:World)(lo p dc:Nat)(D:List qab)(h:qbb w lo p dc D)(i:Nat)(hi:i<D.length):Calls prog 87 #[.pointer (some ⟨p,0,none⟩),.int .i64 (i:Int)] w (quk D[i].now w):=by
 obtain⟨k0,k1,k2,k3,k4,hb⟩:=h.box;have hlen:=h.len;have hp:=qa0 hb;have p0:=cell_of_row w p 0 _ _ _ hb;have hdc:=(h.rows.lineArr hi);have T0:=hid (qez w lo p dc D h i 0 0 hi (by omega));have T1:=qhy D[i].now (some ⟨dc,i*193,none⟩) 64 w hdc (by rw[D[i].hn];omega);rw[D[i].hn]at T1;have HT1:=hid T1;have hii:(i:Int)<(D.length:Int):=by omega
 have hdl:dc<w.heap.size:=by
  rcases h.rows.lt with h0|⟨b',o',hA, -,h1⟩
  · omega
  · cases hA;exact h1
 clear h hb hdc T1;go_enter func87,ntmps87;go_wp2_with fail;refine T0.out.mono ?_;rintro e w1⟨rfl,rfl⟩;go_wp2_with fail;refine HT1.out.mono ?_;rintro e w2⟨A,c,rfl,hown,hb2⟩;have HH:=hid (And.intro hown hb2);have hl:D[i].now.length=64:=D[i].hn;rw[hl];clear hown hb2;go_wp2_with fail;go_ret2;exact⟨A,c,rfl,HH.out.1,HH.out.2⟩
theorem qdg:(prog.info? 245).map (·.size)=some 64:=by kernel_rfl
theorem qab.flush_same(x:qab):∀j,j<128\/128+(byC x.now++[Value.bool true]).length<=j->(x.flush).enc[j]? =x.enc[j]? :=λj hj=>by
 rcases hj with hj|hj
 · have e:∀z:qab,z.enc[j]? =(byC z.now++byC z.kept)[j]? :=λz=>by
    rw[qab.enc,List.append_assoc,List.getElem?_append_left (by rw[List.length_append,qad,qad,z.hn,z.hk];omega)]
   rw[e,e]
   rfl
 · rw[List.length_append,qad,x.hn]at hj
   simp only[List.length_cons,List.length_nil]at hj
   rw[List.getElem?_eq_none (by rw[qab.enc_len];omega),List.getElem?_eq_none (by rw[qab.enc_len];omega)]
theorem qab.flush_new(x:qab):∀j,j<(byC x.now++[Value.bool true]).length->(x.flush).enc[128+j]? =(byC x.now++[Value.bool true])[j]? :=λj hj=>by
 rw[List.length_append,qad,x.hn]at hj
 simp only[List.length_cons,List.length_nil]at hj
 rcases(by omega:j<64\/j=64)with h|rfl
 · rw[qab.e_way _ h,List.getElem?_append_left (by rw[qad,x.hn];exact h)]
   rfl
 · rw[qab.e_sent,List.getElem?_append_right (by rw[qad,x.hn];omega),qad,x.hn]
   rfl
theorem qab.back_same(x:qab):∀j,j<64\/64+(byC x.now).length<=j->({x with kept:=x.now,hk:=x.hn}:qab).enc[j]? =x.enc[j]? :=λj hj=>by
 rw[qad,x.hn]at hj
 rcases hj with hj|hj
 · rw[qab.e_now _ hj,qab.e_now _ hj]
 · have e:∀z:qab,z.enc[j]? =(byC z.way++[.bool z.sent])[j-128]? :=λz=>by
    rw[qab.enc,List.append_assoc,List.getElem?_append_right (by rw[List.length_append,qad,qad,z.hn,z.hk];omega),List.length_append,qad,qad,z.hn,z.hk]
   rw[e,e]
theorem qe2(b:Nat):∀(vs ws:List Value) (o:Nat) (w:World),w.setCells b o (vs++ws)=(w.setCells b o vs).setCells b (o+vs.length) ws
 | [],ws,o,w=>rfl
 |v::r,ws,o,w=>by
  rw[List.cons_append,World.setCells,qe2 b r ws (o+1),World.setCells,List.length_cons]
  congr 1
  omega
structure qBb(w:World)(dc i:Nat)(x:qab):Prop where
 now:w.rangeAt dc (i*193) (byC x.now)
 way:w.rangeAt dc (i*193+128) (byC x.way)
 tkept:w.there dc (i*193+64) 64
 tway:w.there dc (i*193+128) 64
 sent:w.cell? ⟨dc,i*193+192,none⟩=some (.bool x.sent)
 fsent:w.frozen? ⟨dc,i*193+192,none⟩=false
 lt:dc<w.heap.size
theorem qbb.line{w:World}{lo p dc:Nat}{D:List qab}(h:qbb w lo p dc D){i:Nat}(hi:i<D.length):qBb w dc i D[i]:=by
 have h0:=h.rows.part qab.enc_len hi (o:=0) (vs:=byC D[i].now) (by rw[qad,D[i].hn];omega) (λj hj=>by rw[qad,D[i].hn]at hj;rw[Nat.zero_add,qab.e_now _ hj]);have h1:=h.rows.part qab.enc_len hi (o:=64) (vs:=byC D[i].kept) (by rw[qad,D[i].hk];omega) (λj hj=>by rw[qad,D[i].hk]at hj;rw[qab.e_kept _ hj]);have h2:=h.rows.part qab.enc_len hi (o:=128) (vs:=byC D[i].way) (by rw[qad,D[i].hw];omega) (λj hj=>by rw[qad,D[i].hw]at hj;rw[qab.e_way _ hj]);have h3:=h.rows.part qab.enc_len hi (o:=192) (vs:=[.bool D[i].sent]) (by simp) (λj hj=>by
  simp only[List.length_cons,List.length_nil]at hj
  obtain rfl:j=0:=by omega
  rw[Nat.add_zero,qab.e_sent];rfl)
 rw[qad,D[i].hk]at h1;rw[qad,D[i].hw]at h2;simp only[Nat.zero_add,Nat.add_zero]at h0 h1 h2 h3;refine⟨h0.1,h2.1,h1.2.1,h2.2.1,h3.1 0 _ rfl,?_,h0.2.2⟩;have:=(h3.2.1 0 (by simp)).2;simpa using this
theorem qlw(w:World)(lo p dc:Nat)(D:List qab)(h:qbb w lo p dc D)(i:Nat)(hi:i<D.length):Calls prog 107 #[.pointer (some ⟨p,0,none⟩),.int .i64 (i:Int)] w (qfg lo p dc (D.set i D[i].flush) w):=by
 have H:=hid h;obtain⟨k0,k1,k2,k3,k4,hb⟩:=h.box;have hlen:=h.len;have hp:=qa0 hb;have p0:=cell_of_row w p 0 _ _ _ hb;have HL:=hid (h.line hi);have hdl:=HL.out.lt;have T0:=hid (qez w lo p dc D h i 0 0 hi (by omega));have hii:(i:Int)<(D.length:Int):=by omega
 have hbl:(byC D[i].now).length=64:=by rw[qad,D[i].hn]
 have HTW:Hid (w.there dc (i*193+128) (byC D[i].now).toArray.size):=hid (by rw[show(byC D[i].now).toArray.size=64 from hbl];exact HL.out.tway);have HIA:Hid ((prog.info? 245).map (·.size)=some (byC D[i].now).toArray.size):=hid (by rw[show(byC D[i].now).toArray.size=64 from hbl];exact qdg);have HIL:Hid ((prog.info? 245).map (·.size)=some (byC D[i].now).length):=hid (by rw[hbl];exact qdg);have n192:(w.setCells dc (i*193+128) (byC D[i].now)).cell? ⟨dc,i*193+192,none⟩=some (.bool D[i].sent):=by
  rw[World.cell?_setCells_out dc _ _ _ _ (λ_ _=>.inr (by rw[hbl];show i*193+128+64<=i*193+192;omega)),HL.out.sent]
 have f192:(w.setCells dc (i*193+128) (byC D[i].now)).frozen? ⟨dc,i*193+192,none⟩=false:=by
  rw[World.frozen?_setCells];exact HL.out.fsent
 have hR:Own qab.enc 247 193 ((w.setCells dc (i*193+128) (byC D[i].now)).setCell ⟨dc,i*193+192,none⟩ (.bool true)) lo (some ⟨dc,0,none⟩) D.length (D.set i D[i].flush):=by
  have:=h.rows.setPart qab.enc_len hi D[i].flush 128 (byC D[i].now++[.bool true]) (by rw[List.length_append,hbl];simp) (qab.flush_same _) (qab.flush_new _);rwa [Nat.zero_add,qe2,hbl]at this
 have HR:=hid hR;clear h hb hR hbl;go_enter func107,ntmps107;go_wp2_with fail;refine T0.out.mono ?_;rintro e w1⟨rfl,rfl⟩;go_upto_region 6 with(first|(refine wpList_load_mid rfl 245 (.tmp 23) rfl dc (i*193) (by first|rfl|simp[Act.eval]) (byC D[i].now) _ HL.out.now underlying245 rfl HIL.out ?_)|(refine wpList_store_mid rfl 245 (.tmp 26) (.tmp 24) rfl dc (i*193+128) (byC D[i].now).toArray (by first|rfl|simp[Act.eval]) (by first|rfl|simp[Act.eval]) HTW.out HIA.out (all_oneCell_toArray qcw) ?_));have hD:=H.out.set HR.out (by simp) ((Below.heap_setCell _ _ _ _ H.out.lo.2.2).trans (qb2 _ _ _ _ _ H.out.lo.2.2));have hO:Old2 lo p dc w1 ((w1.setCells dc (i*193+128) (byC D[i].now)).setCell ⟨dc,i*193+192,none⟩ (.bool true)):=by
  have h1:=(Old2.refl lo p dc w1).setsQ H.out.lo.2.1 (i*193+128) (byC D[i].now);exact⟨h1.below.setCell H.out.lo.2.1 _,λb hb hne hnq=>(Below.heap_setCell _ _ _ _ hnq).trans (h1.keep b hb hne hnq)⟩
 clear HR HTW HIA HIL n192 f192 p0 T0;generalize World.setCell _ _ _=w2 at *;have HD:=hid hD;have HO:=hid hO;obtain⟨c9,n0,nf,hp2⟩:=hD.cnt (q:=2) (by omega);clear hD hO;go_wp2_with fail;refine(qgx p 2 c9 1 w2 n0 nf hp2).mono ?_;rintro e w3⟨v9,rfl,rfl⟩;go_wp2_with fail;go_ret;exact⟨rfl,HD.out.count (by omega) v9,HO.out.setP HD.out.lo.1 _ _⟩
end
end Go.Proofs.YtecikkjbnkhhkaaGreat
