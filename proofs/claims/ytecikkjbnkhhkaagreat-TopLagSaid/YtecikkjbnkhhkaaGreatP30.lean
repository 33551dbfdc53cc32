/- A part of the walk. -/
import Derived.Test.YtecikkjbnkhhkaaGreatP29
namespace Go.Proofs.YtecikkjbnkhhkaaGreat
open _root_.Go.Proofs.Tryz
set_option maxHeartbeats 4000000
set_option maxRecDepth 100000
section
open Go.RowKit
theorem qab.back_new(x:qab):∀j,j<(byC x.now).length->({x with kept:=x.now,hk:=x.hn}:qab).enc[64+j]? =(byC x.now)[j]? :=λj hj=>by
 rw[qad,x.hn]at hj
 rw[qab.e_kept _ hj]
theorem qab.sent_same(x:qab)(v:Bool):∀j,j<192\/192+ [Value.bool v].length<=j->({x with sent:=v}:qab).enc[j]? =x.enc[j]? :=λj hj=>by
 simp only[List.length_cons,List.length_nil]at hj
 rcases hj with hj|hj
 · have e:∀z:qab,z.enc[j]? =(byC z.now++byC z.kept++byC z.way)[j]? :=λz=>by
    rw[qab.enc,List.getElem?_append_left (by rw[List.length_append,List.length_append,qad,qad,qad,z.hn,z.hk,z.hw];exact hj)]
   rw[e,e]
 · rw[List.getElem?_eq_none (by rw[qab.enc_len];omega),List.getElem?_eq_none (by rw[qab.enc_len];omega)]
theorem qab.sent_new(x:qab)(v:Bool):∀j,j < [Value.bool v].length->({x with sent:=v}:qab).enc[192+j]? =[Value.bool v][j]? :=λj hj=>by
 simp only[List.length_cons,List.length_nil]at hj
 obtain rfl:j=0:=by omega
 rw[Nat.add_zero,qab.e_sent]
 rfl
theorem qx8(w:World)(lo p dc:Nat)(D:List qab)(h:qbb w lo p dc D)(i:Nat)(hi:i<D.length):Calls prog 85 #[.pointer (some ⟨p,0,none⟩),.int .i64 (i:Int)] w (qfg lo p dc (D.set i D[i].back) w):=by
 have H:=hid h;obtain⟨k0,k1,k2,k3,k4,hb⟩:=h.box;have hlen:=h.len;have hp:=qa0 hb;have p0:=cell_of_row w p 0 _ _ _ hb;have HL:=hid (h.line hi);have hdl:=HL.out.lt;have T0:=hid (qez w lo p dc D h i 0 0 hi (by omega));have hii:(i:Int)<(D.length:Int):=by omega
 have hbl:(byC D[i].now).length=64:=by rw[qad,D[i].hn]
 have HTW:Hid (w.there dc (i*193+64) (byC D[i].now).toArray.size):=hid (by rw[show(byC D[i].now).toArray.size=64 from hbl];exact HL.out.tkept);have HIA:Hid ((prog.info? 245).map (·.size)=some (byC D[i].now).toArray.size):=hid (by rw[show(byC D[i].now).toArray.size=64 from hbl];exact qdg);have HIL:Hid ((prog.info? 245).map (·.size)=some (byC D[i].now).length):=hid (by rw[hbl];exact qdg);have n192:(w.setCells dc (i*193+64) (byC D[i].now)).cell? ⟨dc,i*193+192,none⟩=some (.bool D[i].sent):=by
  rw[World.cell?_setCells_out dc _ _ _ _ (λ_ _=>.inr (by rw[hbl];show i*193+64+64<=i*193+192;omega)),HL.out.sent]
 have f192:(w.setCells dc (i*193+64) (byC D[i].now)).frozen? ⟨dc,i*193+192,none⟩=false:=by
  rw[World.frozen?_setCells];exact HL.out.fsent
 have hR:Own qab.enc 247 193 ((w.setCells dc (i*193+64) (byC D[i].now)).setCell ⟨dc,i*193+192,none⟩ (.bool false)) lo (some ⟨dc,0,none⟩) D.length (D.set i D[i].back):=by
  have h1:=h.rows.setPart qab.enc_len hi {D[i]with kept:=D[i].now,hk:=D[i].hn} 64 (byC D[i].now) (by rw[hbl];omega) (qab.back_same _) (qab.back_new _);have h2:=h1.setPart qab.enc_len (i:=i) (by rw[List.length_set];exact hi) D[i].back 192 [.bool false] (by simp) (λj hj=>by rw[List.getElem_set_self];exact qab.sent_same {D[i]with kept:=D[i].now,hk:=D[i].hn} false j hj) (λj hj=>qab.sent_new {D[i]with kept:=D[i].now,hk:=D[i].hn} false j hj);rw[List.set_set,Nat.zero_add]at h2;exact h2
 have HR:=hid hR;clear h hb hR hbl;go_enter func85,ntmps85;go_wp2_with fail;refine T0.out.mono ?_;rintro e w1⟨rfl,rfl⟩;go_upto_region 6 with(first|(refine wpList_load_mid rfl 245 (.tmp 23) rfl dc (i*193) (by first|rfl|simp[Act.eval]) (byC D[i].now) _ HL.out.now underlying245 rfl HIL.out ?_)|(refine wpList_store_mid rfl 245 (.tmp 26) (.tmp 24) rfl dc (i*193+64) (byC D[i].now).toArray (by first|rfl|simp[Act.eval]) (by first|rfl|simp[Act.eval]) HTW.out HIA.out (all_oneCell_toArray qcw) ?_));have hD:=H.out.set HR.out (by simp) ((Below.heap_setCell _ _ _ _ H.out.lo.2.2).trans (qb2 _ _ _ _ _ H.out.lo.2.2));have hO:Old2 lo p dc w1 ((w1.setCells dc (i*193+64) (byC D[i].now)).setCell ⟨dc,i*193+192,none⟩ (.bool false)):=by
  have h1:=(Old2.refl lo p dc w1).setsQ H.out.lo.2.1 (i*193+64) (byC D[i].now);exact⟨h1.below.setCell H.out.lo.2.1 _,λb hb hne hnq=>(Below.heap_setCell _ _ _ _ hnq).trans (h1.keep b hb hne hnq)⟩
 clear HR HTW HIA HIL n192 f192 p0 T0;generalize World.setCell _ _ _=w2 at *;have HD:=hid hD;have HO:=hid hO;obtain⟨c9,n0,nf,hp2⟩:=hD.cnt (q:=4) (by omega);clear hD hO;go_wp2_with fail;refine(qgx p 4 c9 1 w2 n0 nf hp2).mono ?_;rintro e w3⟨v9,rfl,rfl⟩;go_wp2_with fail;go_ret;exact⟨rfl,HD.out.count (by omega) v9,HO.out.setP HD.out.lo.1 _ _⟩
theorem qab.fence_same(x:qab):∀j,j<64\/64+(byC x.way).length<=j->({x with kept:=x.way,hk:=x.hw}:qab).enc[j]? =x.enc[j]? :=λj hj=>by
 rw[qad,x.hw]at hj
 rcases hj with hj|hj
 · rw[qab.e_now _ hj,qab.e_now _ hj]
 · have e:∀z:qab,z.enc[j]? =(byC z.way++[.bool z.sent])[j-128]? :=λz=>by
    rw[qab.enc,List.append_assoc,List.getElem?_append_right (by rw[List.length_append,qad,qad,z.hn,z.hk];omega),List.length_append,qad,qad,z.hn,z.hk]
   rw[e,e]
theorem qab.fence_new(x:qab):∀j,j<(byC x.way).length->({x with kept:=x.way,hk:=x.hw}:qab).enc[64+j]? =(byC x.way)[j]? :=λj hj=>by
 rw[qad,x.hw]at hj
 rw[qab.e_kept _ hj]
def fenced(D:List qab)(k:Nat):List qab:=(D.take k).map qab.fence++D.drop k
theorem qdi(D:List qab)(k:Nat):(fenced D k).length=D.length:=by
 simp[fenced];omega
theorem qqj{D:List qab}{k:Nat}(hk:k<D.length):(fenced D k)[k]'(by rw[qdi];exact hk)=D[k]:=by
 simp only[fenced];rw[List.getElem_append_right (by rw[List.length_map,List.length_take];omega)];simp[Nat.min_eq_left (Nat.le_of_lt hk)]
theorem qns{D:List qab}{k:Nat}(hk:k<D.length):(fenced D k).set k D[k].fence=fenced D (k+1):=by
 unfold fenced;rw[List.take_succ_eq_append_getElem hk,List.map_append,List.map_cons,List.map_nil,List.set_append_right _ _ (by rw[List.length_map,List.length_take];omega),List.length_map,List.length_take,Nat.min_eq_left (Nat.le_of_lt hk),Nat.sub_self,List.drop_eq_getElem_cons hk,List.set_cons_zero,List.append_assoc];rfl
theorem qt9{x:qab}(h:x.sent=false):x.fence=x:=by unfold qab.fence;rw[if_neg (by rw[h];decide)]
theorem qwo{x:qab}(h:x.sent=true):x.fence= {x with kept:=x.way,sent:=false,hk:=x.hw}:=by unfold qab.fence;rw[if_pos h]
theorem qta(w:World)(lo p dc:Nat)(D:List qab)(h:qbb w lo p dc D):Calls prog 108 #[.pointer (some ⟨p,0,none⟩)] w (qfg lo p dc (D.map qab.fence) w):=by
 have H:=hid h;obtain⟨k0,k1,k2,k3,k4,hb⟩:=h.box;have hlen:=h.len;have hp:=qa0 hb;have p0:=cell_of_row w p 0 _ _ _ hb;clear h hb;go_enter func108,ntmps108;go_wp2_with fail;clear p0;go_loopw [3,4,12] (λ_ _ v12 wr=>∃k:Nat,k<=D.length/\v12=.int .i64 k/\qbb wr lo p dc (fenced D k)/\Old2 lo p dc w wr) (λ_ _ v12 _=>D.length-(intOf v12).toNat)
 case atStart=>exact⟨0,Nat.zero_le _,rfl,by simpa[fenced]using H.out,Old2.refl _ _ _ _⟩
 case round =>
  obtain⟨k,hk,rfl,hD,hO⟩:=hrel;have HD:=hid hD;have HO:=hid hO;by_cases hlt:k<D.length
  · have hkl:k<(fenced D k).length:=by rw[qdi];exact hlt
    have hli:=hD.line hkl;have HR0:=hid (show ∀x:qab,x=(fenced D k)[k]->_ from λx hx=>hD.rows.setPart qab.enc_len hkl {x with kept:=x.way,hk:=x.hw} 64 (byC x.way) (by rw[qad,x.hw];omega) (by rw[<-hx];exact qab.fence_same x) (qab.fence_new x));obtain⟨j0,j1,j2,j3,j4,hb⟩:=hD.box;have hp2:=qa0 hb;have q0:=cell_of_row wr p 0 _ _ _ hb;rw[qdi]at q0;have hlti:(k:Int)<(D.length:Int):=by omega
    have hx:D[k]=(fenced D k)[k]:=(qqj hlt).symm;rw[<-hx]at hli;have HSUC:=hid (qns hlt);have HX:=hid hx;have s0:=hli.sent;have hdl:=hli.lt;have HLI:=hid hli;clear hD hO hb hli hx;cases hs:D[k].sent with
    |false =>
     rw[hs]at s0;have HF:=hid (qt9 hs);go_wp2_with fail;refine⟨⟨k+1,by omega,by go_num,?_,HO.out⟩,by simp[intOf];omega⟩;rw[<-HSUC.out,HF.out,HX.out,List.set_getElem_self];exact HD.out
    |true =>
     rw[hs]at s0;have HSN:=hid hs;have hbl:(byC D[k].way).length=64:=by rw[qad,D[k].hw]
     have HTW:Hid (wr.there dc (k*193+64) (byC D[k].way).toArray.size):=hid (by rw[show(byC D[k].way).toArray.size=64 from hbl];exact HLI.out.tkept);have HIA:Hid ((prog.info? 245).map (·.size)=some (byC D[k].way).toArray.size):=hid (by rw[show(byC D[k].way).toArray.size=64 from hbl];exact qdg);have HIL:Hid ((prog.info? 245).map (·.size)=some (byC D[k].way).length):=hid (by rw[hbl];exact qdg);have n192:(wr.setCells dc (k*193+64) (byC D[k].way)).cell? ⟨dc,k*193+192,none⟩=some (.bool D[k].sent):=by
      rw[World.cell?_setCells_out dc _ _ _ _ (λ_ _=>.inr (by rw[hbl];show k*193+64+64<=k*193+192;omega)),HLI.out.sent]
     have f192:(wr.setCells dc (k*193+64) (byC D[k].way)).frozen? ⟨dc,k*193+192,none⟩=false:=by
      rw[World.frozen?_setCells];exact HLI.out.fsent
     have hR:Own qab.enc 247 193 ((wr.setCells dc (k*193+64) (byC D[k].way)).setCell ⟨dc,k*193+192,none⟩ (.bool false)) lo (some ⟨dc,0,none⟩) (fenced D k).length (fenced D (k+1)):=by
      have h1:=HD.out.rows.setPart qab.enc_len hkl {D[k]with kept:=D[k].way,hk:=D[k].hw} 64 (byC D[k].way) (by rw[hbl];omega) (by rw[<-HX.out];exact qab.fence_same _) (qab.fence_new _);have h2:=h1.setPart qab.enc_len (i:=k) (by rw[List.length_set];exact hkl) {D[k]with kept:=D[k].way,sent:=false,hk:=D[k].hw} 192 [.bool false] (by simp) (λj hj=>by rw[List.getElem_set_self];exact qab.sent_same {D[k]with kept:=D[k].way,hk:=D[k].hw} false j hj) (λj hj=>qab.sent_new {D[k]with kept:=D[k].way,hk:=D[k].hw} false j hj);rw[List.set_set,Nat.zero_add,<-qwo hs,HSUC.out]at h2;exact h2
     have hD2:=HD.out.set hR (by rw[qdi,qdi]) ((Below.heap_setCell _ _ _ _ HD.out.lo.2.2).trans (qb2 _ _ _ _ _ HD.out.lo.2.2));have hO2:Old2 lo p dc w ((wr.setCells dc (k*193+64) (byC D[k].way)).setCell ⟨dc,k*193+192,none⟩ (.bool false)):=by
      have h1:=HO.out.setsQ HD.out.lo.2.1 (k*193+64) (byC D[k].way);exact⟨h1.below.setCell HD.out.lo.2.1 _,λb hb hne hnq=>(Below.heap_setCell _ _ _ _ hnq).trans (h1.keep b hb hne hnq)⟩
     have HD2:=hid hD2;have HO2:=hid hO2;rw[hs]at n192;clear hbl hR hD2 hO2 hs;go_wp2_with(first|(refine wpList_load_mid rfl 245 (.tmp 29) rfl dc (k*193+128) (by first|rfl|simp[Act.eval]) (byC D[k].way) _ HLI.out.way underlying245 rfl HIL.out ?_)|(refine wpList_store_mid rfl 245 (.tmp 32) (.tmp 30) rfl dc (k*193+64) (byC D[k].way).toArray (by first|rfl|simp[Act.eval]) (by first|rfl|simp[Act.eval]) HTW.out HIA.out (all_oneCell_toArray qcw) ?_));exact⟨⟨k+1,by omega,by go_num,HD2.out,HO2.out⟩,by simp[intOf];omega⟩
  · obtain rfl:k=D.length:=by omega
    have hDE:fenced D D.length=D.map qab.fence:=by simp[fenced]
    rw[hDE]at hD;have HD3:=hid hD;obtain⟨c9,n0,nf,hp2⟩:=hD.cnt (q:=3) (by omega);clear hD hO HD hDE;go_wp2_with fail;refine(qgx p 3 c9 1 wr n0 nf hp2).mono ?_;rintro e w3⟨v9,rfl,rfl⟩;go_wp2_with fail;go_ret;exact⟨rfl,HD3.out.count (by omega) v9,HO.out.setP HD3.out.lo.1 _ _⟩
end
section
open Go.RowKit
def qbc:qab:=⟨zeros 64,zeros 64,zeros 64,false,rfl,rfl,rfl⟩
theorem qto:(prog.info? 247).map (λi=>(i.zero.map Value.cells,i.size,i.bytes))=some (some qbc.enc.toArray,193,193):=by kernel_rfl
theorem qw1(z:Array Value)(n q r:Nat)(hz:z.size=193)(hr:r<193)(hq:q<n):(madeCells z (n*193))[q*193+r]? =z[r]? :=by
 have h1:q*193+r<n*193:=by
  have:(q+1)*193<=n*193:=Nat.mul_le_mul_right _ (by omega);omega
 unfold madeCells;rw[Array.getElem?_map,Array.getElem?_range,if_pos h1,Option.map_some,hz,show(q*193+r)%193=r by omega,getElem!_pos z r (by omega),Array.getElem?_eq_getElem (by omega)]
theorem qqp(n:Nat)(w:World)(h1:1<=n)(h2:n<=258):Calls prog 48 #[.int .i64 (n:Int)] w λe w'=>e=.returned (.tuple #[.pointer (some ⟨w.heap.size+1,0,none⟩),.int .i64 0])/\qbb w' w.heap.size (w.heap.size+1) w.heap.size (List.replicate n qbc)/\Below w.heap.size w w':=by
 have g1:¬(n:Int)<1:=by omega
 have g2:¬(258:Int)<(n:Int):=by omega
 obtain⟨i,hi,hz,hs,hby⟩:∃i,prog.info? 247=some i/\i.zero.map Value.cells=some qbc.enc.toArray/\i.size=193/\i.bytes=193:=by
  have:=qto;cases hq:prog.info? 247 with
  |none=>rw[hq]at this;cases this
  |some i=>rw[hq]at this;simp at this;exact⟨i,rfl,by simpa using this⟩
 obtain⟨z,hz1,hz2⟩:∃z,i.zero=some z/\z.cells=qbc.enc.toArray:=by
  cases hq:i.zero with
  |none=>rw[hq]at hz;cases hz
  |some z=>rw[hq]at hz;simp at hz;exact⟨z,rfl,hz⟩
 have MK:=λW=>run_make (P:=prog) W 154 247 i z underlying154 hi hz1 .i64 .i64 (n:Int) (n:Int) (by omega) (Int.le_refl _) (by rw[hby];omega) (by omega)
 simp only[Int.toNat_natCast,hs,hz2]at MK;clear hz1 hz2 hz hs hby hi;go_enter func48,ntmps48;go_wp2_with fail;go_ret2;refine⟨rfl,⟨⟨0,0,0,0,0,?_⟩,⟨Nat.le_refl _,by simp[maxLen];omega,.inr ⟨w.heap.size,0,madeCells qbc.enc.toArray (n*193),rfl,Nat.le_refl _,?_,by rw[size_madeCells,List.length_replicate];omega,λj u hu=>?_⟩⟩,⟨by omega,Nat.le_refl _,by omega⟩,by rw[List.length_replicate];omega⟩,((Below.refl _ _).alloc (Nat.le_refl _) _).alloc (by simp) _⟩
 · rw[List.length_replicate]
   exact(qa2 _ _ _).trans (by rw[if_pos (by simp)])
 · exact(Below.heap_alloc _ _ _ (by simp)).trans ((qa2 _ _ _).trans (if_pos rfl))
 · have hlt:=(List.getElem?_eq_some_iff.1 hu).1
   rw[qao qab.enc_len,List.length_replicate]at hlt;obtain⟨q,r,rfl,hq,hr⟩:∃q r,j=q*193+r/\q<n/\r<193:=⟨j/193,j%193,by omega,by omega,by omega⟩;rw[qb0 qab.enc_len _ q (by rw[List.length_replicate];exact hq) r hr,List.getElem_replicate]at hu;rw[Nat.zero_add,qw1 _ n q r (by rw[List.size_toArray,qab.enc_len]) hr hq,List.getElem?_toArray];exact hu
def formed(n:Nat):List qab:=((((((List.replicate n qbc).set 0 (qbc.over 0 (qc0 n))).set 1 (qbc.over 0 (qc3 0))).set 0 (qbc.over 0 (qc0 n)).flush).set 1 (qbc.over 0 (qc3 0)).flush).map qab.fence)
theorem qbb.of_old{w w':World}{lo p dc:Nat}{D:List qab}(h:qbb w lo p dc D)(hb:Below w.heap.size w w'):qbb w' lo p dc D:=by
 obtain⟨k0,k1,k2,k3,k4,hx⟩:=h.box;exact⟨⟨k0,k1,k2,k3,k4,(hb.block p (qa0 hx)).trans hx⟩,h.rows.below hb,h.lo,h.len⟩
theorem qqh(n:Nat)(w:World)(lo p dc:Nat)(h:qbb w lo p dc (List.replicate n qbc))(h1:10<=n)(h2:n<=258):Calls prog 79 #[.pointer (some ⟨p,0,none⟩)] w (qfg lo p dc (formed n) w):=by
 have H:=hid h;have T0:=hid (qhn w lo p dc _ h);clear h;go_enter func79,ntmps79;go_wp2_with fail;refine T0.out.mono ?_;rintro e w1⟨rfl,rfl⟩;rw[List.length_replicate];go_wp2_with fail;refine(qpu n w1 h1 h2).mono ?_;rintro e w2⟨x,rfl,b,rfl,hrow,hbl,hb⟩;have HROW:=hid hrow;have HB:=hid hb;have HD2:=hid (H.out.of_old hb);clear hrow hb hbl T0;go_wp2_with fail;have S1:=qh7 w2 lo p dc _ HD2.out 0 0 (by rw[List.length_replicate];omega) (qc0 n) (some ⟨b,0,none⟩) 64 HROW.out.arr0 (by intro h;have:=qc4 n;rw[h]at this;cases this) (by rw[qc4];omega) (by rw[qc4];omega);rw[qc4,List.getElem_replicate]at S1;refine S1.mono ?_;rintro e w3⟨rfl,hD3,hO3⟩;have HD3:=hid hD3;have HO3:=hid ((Old2.of_below (lo:=lo) (p:=p) (q:=dc) HB.out (by have:=qa0 H.out.box.choose_spec.choose_spec.choose_spec.choose_spec.choose_spec;have:=H.out.lo;omega)).trans hO3);clear hD3 hO3 S1;go_wp2_with fail;refine(qqu 0 w3 (by omega)).mono ?_;rintro e w4⟨_,rfl,b4,rfl,hrow,hbl,hb⟩;have HROW:=hid hrow;have HB4:=hid hb;have HD4:=hid (HD3.out.of_old hb);have HO4:=hid (HO3.out.more hb (by have:=qa0 HD3.out.box.choose_spec.choose_spec.choose_spec.choose_spec.choose_spec;have:=H.out.lo;omega));clear hrow hb hbl;go_wp2_with fail;have S2:=qh7 w4 lo p dc _ HD4.out 1 0 (by rw[List.length_set,List.length_replicate];omega) (qc3 0) (some ⟨b4,0,none⟩) 64 HROW.out.arr0 (by intro h;have:=qc7 0;rw[h]at this;cases this) (by rw[qc7];omega) (by rw[qc7];omega);rw[qc7,List.getElem_set_ne (by omega),List.getElem_replicate]at S2;refine S2.mono ?_;rintro e w5⟨rfl,hD5,hO5⟩;have HD5:=hid hD5;have HO5:=hid (HO4.out.trans hO5);clear hD5 hO5 S2;go_wp2_with fail;have F0:=qlw w5 lo p dc _ HD5.out 0 (by rw[List.length_set,List.length_set,List.length_replicate];omega);rw[List.getElem_set_ne (by omega),List.getElem_set_self]at F0;refine F0.mono ?_;rintro e w6⟨rfl,hD6,hO6⟩;have HD6:=hid hD6;have HO6:=hid (HO5.out.trans hO6);clear hD6 hO6 F0;go_wp2_with fail;have F1:=qlw w6 lo p dc _ HD6.out 1 (by rw[List.length_set,List.length_set,List.length_set,List.length_replicate];omega);rw[List.getElem_set_ne (by omega),List.getElem_set_self]at F1;refine F1.mono ?_;rintro e w7⟨rfl,hD7,hO7⟩;have HD7:=hid hD7;have HO7:=hid (HO6.out.trans hO7);clear hD7 hO7 F1;go_wp2_with fail;refine(qta w7 lo p dc _ HD7.out).mono ?_;rintro e w8⟨rfl,hD8,hO8⟩;have HD8:=hid hD8;have HO8:=hid (HO7.out.trans hO8);clear hD8 hO8;go_wp2_with fail;go_ret;exact⟨rfl,HD8.out,HO8.out⟩
end
section
open Go.RowKit
section
variable {g:Own8}{w:World}{lo a b t:Nat}{P:qag}{M:qa4}{ty:TypeId}{f:qa5}{d:FrD}
def wrD(M:qa4)(c:qa7)(k:Int)(n p:Nat):List qab:=if h:n+p<M.D.length then M.D.set (n+p) (M.D[n+p].over 0 (qii c k p))else M.D
theorem qg2{a:Nat}(h:qa6 g w a P M)(c:qa7)(hck:c.key.size<=1000)(hcv:c.val.size<=1000)(n p:Nat)(k:Int)(hk:¬qa9 k=0)(hp:p<qa9 k)(hn:n+qa9 k<=M.D.length):
 Calls prog 247 #[.pointer (some ⟨a,0,none⟩),.agg #[.int .i64 c.kind,.string c.key,.string c.val,.string c.tx,.slice c.gA c.gn c.gc],.int .i64 (n:Int),.int .i64 k,.int .i64 (p:Int)] w (qph a P M (wrD M c k n p) (.bool (decide (p+1=qa9 k))) g w):=by
 have hs:qa9 k<=8:=by unfold qa9;repeat(first|split|omega)
 have hlt:n+p<M.D.length:=by omega
 rw[wrD,dif_pos hlt];by_cases h0:p=0
 · subst h0
   have e1:decide (0+1=qa9 k)=(qa9 k==1):=by rw[Bool.eq_iff_iff];simp;omega
   have e2:qii c k 0=qgj k:=if_pos rfl;rw[e1,e2];exact qnt h c n k hk (by omega)
 · exact qnu h c hck hcv n p k (by omega) (by omega) hlt
def WrR(M:qa4)(f:qa5)(d:FrD)(n p:Nat)(M':qa4)(f':qa5)(d':FrD):Prop:=d'=d/\M'= {M with D:=wrD M f.call f.cls n p} /\
 ((p+1=qa9 f.cls/\f'= {f with piece:=0,phase:=5})\/(¬p+1=qa9 f.cls/\f'= {f with piece:=((p+1:Nat):Int)}))
theorem qhf(h:WSt g w lo a P M b t ty f d)(hck:f.call.key.size<=1000)(hcv:f.call.val.size<=1000)(n p:Nat)(hline:f.line=(n:Int))(hpiece:f.piece=(p:Int))(hk:¬qa9 f.cls=0)(hp:p<qa9 f.cls)(hn:n+qa9 f.cls<=M.D.length):
 Calls prog 185 #[.pointer (some ⟨b,0,none⟩)] w (qal lo a P b t ty (WrR M f d n p) g w):=by
 have hs:qa9 f.cls<=8:=by unfold qa9;repeat(first|split|omega)
 have H:=hid h;have c0:=h.c0;have c2:=h.box.c 2 rfl;have c3:=h.box.c 3 rfl;have c4:=h.box.c 4 rfl;have c5:=h.box.c 5 rfl;have c6:=h.box.c 6 rfl;have c18:=h.box.c 18 rfl;have c19:=h.box.c 19 rfl;have c20:=h.box.c 20 rfl;rw[hline]at c18;rw[hpiece]at c20;have hl:=h.box.lt;have TW:=hid (qg2 (h.ar.below (Below.refl _ _).drew) f.call hck hcv n p f.cls hk hp hn);have HP:=hid hpiece;obtain⟨q,hq⟩:∃q,q=p+1:=⟨_,rfl⟩;have hw1:IntKind.i64.wrap ((p:Int)+1)=(q:Int):=by rw[Go.IntWalk.i64_in _ (by omega)];omega
 have HQ:=hid hq;clear h hline hpiece hq;go_enter func185,ntmps185;go_upto_region 1 with fail;go_still_tail 20,(by kernel_rfl);change wpList _ _ _ _ _ (World.drew w);have H1:=hid H.out.drew;have HE1:Hid (ExtB lo b g g w w.drew):=hid (ExtB.below (Below.refl _ _).drew);generalize hw1:World.drew w=w1 at *;clear hw1 c0 c2 c3 c4 c5 c6 c18 c19 c20 hl H;go_wp2_with fail;refine TW.out.mono ?_;rintro r w2⟨rfl,g2,A2,E2⟩;have h2:=H1.out.ext A2 E2;have H2:=hid h2;have HE2:=hid (HE1.out.trans (.of_ext E2));have c20:=h2.box.c 20 rfl;rw[HP.out]at c20;have f20:=h2.box.fr 20;have c7:=h2.box.c 7 rfl;have f7:=h2.box.fr 7;have hl:=h2.box.lt;clear h2 A2 E2 TW H1 HE1;by_cases hlast:p+1=qa9 f.cls
 · have hd:decide (p+1=qa9 f.cls)=true:=decide_eq_true hlast
   rw[hd];have HL:=hid hlast;clear hd hlast;go_wp2_with fail;refine bodyPost_ret (v:=.tuple #[]) (by simp[results,results185]) rfl ⟨rfl,_,_,d,⟨rfl,rfl,.inl ⟨HL.out,rfl⟩⟩,g2,?_,((HE2.out.trans (ExtB.set 20 _)).trans (ExtB.set 20 _)).trans (ExtB.set 7 _)⟩;exact((H2.out.set 20 (.int .i64 (q:Int)) {f with piece:=(q:Int)} rfl ⟨rfl,rfl,rfl,rfl⟩).set 20 (.int .i64 0) {f with piece:=0} rfl ⟨rfl,rfl,rfl,rfl⟩).set 7 (.int .i64 5) {f with piece:=0,phase:=5} rfl ⟨rfl,rfl,rfl,rfl⟩
 · have hd:decide (p+1=qa9 f.cls)=false:=decide_eq_false hlast
   rw[hd];have HL:=hid hlast;clear hd hlast;go_wp2_with fail;refine bodyPost_ret (v:=.tuple #[]) (by simp[results,results185]) rfl ⟨rfl,_,_,d,⟨rfl,rfl,.inr ⟨HL.out,rfl⟩⟩,g2,?_,HE2.out.trans (ExtB.set 20 _)⟩;have:=HQ.out;subst this;exact H2.out.set 20 (.int .i64 ((p+1:Nat):Int)) {f with piece:=((p+1:Nat):Int)} rfl ⟨rfl,rfl,rfl,rfl⟩
def RdR(M:qa4)(f:qa5)(d:FrD)(now:List UInt8)(pc:Nat)(M':qa4)(f':qa5)(d':FrD):Prop:=M'=M /\
 ((¬pc+1=qa9 f.old.cls/\∃A' c',f'= {f with bA:=A',bn:=d.bs.length+now.length,bc:=c',piece:=((pc+1:Nat):Int)}/\d'= {d with bs:=d.bs++now}) \/
  (pc+1=qa9 f.old.cls/\d'= {d with bs:=[]} /\
   (((valB (decB (d.bs++now)) f.old 1).2=false/\f'= {f with bA:=none,bn:=0,bc:=0,piece:=((pc+1:Nat):Int),code:=6,phase:=6}) \/
    ((valB (decB (d.bs++now)) f.old 1).2=true/\f'= {f with bA:=none,bn:=0,bc:=0,piece:=((pc+1:Nat):Int),found:=true,vl:=(valB (decB (d.bs++now)) f.old 1).1,phase:=6}))))
theorem qit(h:WSt g w lo a P M b t ty f d)(ol pc:Nat)(hol:f.old.line=(ol:Int))(hpc:f.piece=(pc:Int))(hi:ol+pc<M.D.length)(hb:d.bs.length<=900)(hlo:lo<=w.heap.size):
 Calls prog 183 #[.pointer (some ⟨b,0,none⟩)] w (qal lo a P b t ty (RdR M f d M.D[ol+pc].now pc) g w):=by
 have TR:=hid (qm0 h ol pc hol hpc hi (by omega) hlo);have hnl:=M.D[ol+pc].hn;generalize M.D[ol+pc].now=now at *;have c0:=h.c0;have hl:=h.box.lt;have HNL:=hid hnl;clear h hol hpc hi hnl;go_enter func183,ntmps183;go_wp2_with fail;refine TR.out.mono ?_;rintro r w1⟨A',c',rfl,g1,W1,E1⟩;have HW1:=hid W1;have HE1:=hid E1;clear W1 E1 TR c0 hl;by_cases hlast:pc+1=qa9 f.old.cls;rotate_left
 · have hd:decide (pc+1=qa9 f.old.cls)=false:=decide_eq_false hlast
   rw[hd];have HL:=hid hlast;clear hd hlast;go_wp2_with fail;exact bodyPost_ret (v:=.tuple #[]) (by simp[results,results183]) rfl ⟨rfl,M,_,_,⟨rfl,.inl ⟨HL.out,A',c',rfl,rfl⟩⟩,g1,HW1.out,HE1.out⟩
 have hd:decide (pc+1=qa9 f.old.cls)=true:=decide_eq_true hlast;rw[hd];have HL:=hid hlast;clear hd hlast;have TV:=hid (qj5 HW1.out 1 (by show(d.bs++now).length<=1000000;rw[List.length_append,HNL.out];omega));go_wp2_with fail;refine TV.out.mono ?_;rintro r w2⟨rfl,g2,W2,E2⟩;obtain⟨v,hv⟩:∃v,v=valB (decB (d.bs++now)) f.old 1:=⟨_,rfl⟩;have HV:=hid hv;rw[show valB (decB ({d with bs:=d.bs++now}:FrD).bs) ({f with bA:=A',bn:=d.bs.length+now.length,bc:=c',piece:=((pc+1:Nat):Int)}:qa5).old 1=v from hv.symm];obtain⟨v1,v2⟩:=v;have HW2:=hid W2;have HE2:=hid (HE1.out.trans E2);clear hv TV W2 E2;cases v2 with
 |false =>
  have TF:=hid (qcb HW2.out 6);go_wp2_with fail;refine TF.out.mono ?_;rintro r w3⟨rfl,hto⟩;have HTO:=hid hto;clear hto TF;go_wp2_with fail;exact bodyPost_ret (v:=.tuple #[]) (by simp[results,results183]) rfl ⟨rfl,M,_,_,⟨rfl,.inr ⟨HL.out,rfl,.inl ⟨by rw[<-HV.out],rfl⟩⟩⟩,WTo.trans HE2.out HTO.out⟩
 |true =>
  have c25:=HW2.out.box.c 25 rfl;have c26:=HW2.out.box.c 26 rfl;have c7:=HW2.out.box.c 7 rfl;have f25:=HW2.out.box.fr 25;have f26:=HW2.out.box.fr 26;have f7:=HW2.out.box.fr 7;have hl:=HW2.out.box.lt;go_wp2_with fail;refine bodyPost_ret (v:=.tuple #[]) (by simp[results,results183]) rfl ⟨rfl,M,_,_,⟨rfl,.inr ⟨HL.out,rfl,.inr ⟨by rw[<-HV.out],rfl⟩⟩⟩,g2,?_,((HE2.out.trans (ExtB.set 25 _)).trans (ExtB.set 26 _)).trans (ExtB.set 7 _)⟩;rw[<-HV.out];exact((HW2.out.set 25 (.bool true) {f with bA:=none,bn:=0,bc:=0,piece:=((pc+1:Nat):Int),found:=true} rfl ⟨rfl,rfl,rfl,rfl⟩).set 26 (.string v1) {f with bA:=none,bn:=0,bc:=0,piece:=((pc+1:Nat):Int),found:=true,vl:=v1} rfl ⟨rfl,rfl,rfl,rfl⟩).set 7 (.int .i64 6) {f with bA:=none,bn:=0,bc:=0,piece:=((pc+1:Nat):Int),found:=true,vl:=v1,phase:=6} rfl ⟨rfl,rfl,rfl,rfl⟩
end
end
section
open Go.RowKit
def LocK(K:Nat->Prop){α:Type}(A:Option Addr)(l:List α):Prop:=l=[]\/∃x off,A=some ⟨x,off,none⟩/\K x
structure FrAt(K:Nat->Prop)(w:World)(f:qa5)(d:FrD):Prop where
 fin:qbt w w.heap.size f d.gr d.bs d.ps d.hs
 grp:LocK K f.call.gA d.gr
 byt:LocK K f.bA d.bs
 prt:LocK K f.pA d.ps
 hit:LocK K f.hA d.hs
structure qdm(f:qa5)(d:FrD)(f1:qa5)(d1:FrD):Prop where
 eq:∃y bA bc pA pc hA hc,f1=f.as y d bA bc pA pc hA hc/\CSim y f.call
 gr:Sims d1.gr d.gr
 bs:d1.bs=d.bs
 ps:d1.ps=d.ps
 hs:d1.hs=d.hs
def qcy(a:Nat)(P:qag)(R:qa5->FrD->qa4->qa5->FrD->Prop)(f:qa5)(d:FrD)(g:Own8)(w:World)(r:Ending)(w':World):Prop:=
 ∃f1 d1 M' f' d' g',r=.returned f'.v/\qdm f d f1 d1/\R f1 d1 M' f' d'/\qa6 g' w' a P M'/\Ext g g' w w'/\FrAt (λx=>g' x=0/\w.heap.size<=x) w' f' d'
section
variable {g g':Own8}{w w':World}{lo a b t:Nat}{P:qag}{M M':qa4}{ty:TypeId}{f f':qa5}{d d':FrD}
theorem qys{α:Type}{enc:α->List Value}{e:TypeId}{k:Nat}{A:Option Addr}{c:Nat}{l:List α}{K:Nat->Prop}(h:Own enc e k w lo A c l)(hK:∀x,qa8 A c=some x->K x):LocK K A l:=by
 rcases h.2.2 with h0|⟨x,off,cur,hA,hlo,r⟩
 · exact .inl (List.eq_nil_of_length_eq_zero (by have:=h.1;omega))
 · by_cases hc:c=0
   · exact .inl (List.eq_nil_of_length_eq_zero (by have:=h.1;omega))
   · refine .inr ⟨x,off,hA,hK x ?_⟩
     rw[hA,qa8,if_neg hc];rfl
theorem qgz{w1 w2:World}(h:qa6 g w a P M){y:qa7}{Mg:List qa7}{bA pA hA:Option Addr}{bc pc hc:Nat}(hcp:qyg f d lo w1 y Mg bA bc pA pc hA hc)(hlo:w.heap.size<=lo)(hlo1:lo<=w1.heap.size)(hgl:Mg=[]\/∃x off,y.gA=some ⟨x,off,none⟩/\w.heap.size<=x)
 (hb1:Below w.heap.size w w1) (hty:qoe ty) (hb2:Below w1.heap.size w1 w2) (hw:qbq w2 w1.heap.size a t ty (f.as y d bA bc pA pc hA hc)):WSt g w2 lo a P M w1.heap.size t ty (f.as y d bA bc pA pc hA hc) {gr:=Mg,bs:=d.bs,ps:=d.ps,hs:=d.hs}:=by
 have hs2:=hb2.size;have hs1:=hb1.size;have hrw:∀{α:Type} {enc:α->List Value} {e:TypeId} {k:Nat} {A:Option Addr} {c:Nat} {l:List α},Own enc e k w1 lo A c l->qc8 g 0 A c:=λho j hj=>h.far j (by have:=qe4 ho j hj;omega)
 refine⟨h.below (hb1.trans (hb2.mono hb1.size)),hw,h.far _ hb1.size,hty,⟨?_,?_⟩,⟨hcp.byt.below hb2,rfl,hrw hcp.byt⟩,⟨hcp.prt.below hb2,rfl,hrw hcp.prt⟩,⟨hcp.hit.below hb2,rfl,hrw hcp.hit⟩⟩
 · exact(hcp.grp.below (hb2.mono hlo1)).more (by omega)
 · rcases hgl with h0|⟨x,off,hA,hx⟩
   · exact .inl h0
   · rcases hcp.grp.1 with h0|⟨x',off',hA',hx',_⟩
     · exact .inl h0
     · rw[hA]at hA'
       cases hA'
       exact .inr ⟨x,off,hA,h.far x hx,by omega,hx'⟩
theorem qjh(h:WSt g w lo a P M b t ty f d)(q:Nat)(hq:q<=lo)(hgr:d.gr=[]\/∃x off,f.call.gA=some ⟨x,off,none⟩/\q<=x):FrAt (λx=>g x=0/\q<=x) w f d:=by
 have hs:∀{α:Type} {enc:α->List Value} {e:TypeId} {k:Nat} {A:Option Addr} {n c:Nat} {l:List α},(∀x,(enc x).length=k)->RowG g enc e k w lo A n c l->Sl enc k w w.heap.size A n c l/\LocK (λx=>g x=0/\q<=x) A l:=λhk ho =>
  ⟨⟨ho.1.arr hk,ho.2.1,ho.1.1,by have:=ho.1.2.1;unfold maxLen at this;omega⟩,qys ho.1 λx hx=>⟨ho.2.2 x hx,by have:=qe4 ho.1 x hx;omega⟩⟩
 obtain⟨b1,b2⟩:=hs qbn h.byt;obtain⟨p1,p2⟩:=hs qas.enc_len h.prt;obtain⟨h1,h2⟩:=hs qfd h.hit;refine⟨⟨h.grp.1,b1,p1,h1⟩,?_,b2,p2,h2⟩;rcases hgr with h0|⟨x,off,hA,hx⟩
 · exact .inl h0
 · rcases h.grp.2 with h0|⟨x',off',hA',hx',_⟩
   · exact .inl h0
   · rw[hA]at hA'
     cases hA'
     exact .inr ⟨x,off,hA,hx',hx⟩
theorem Sl.keepK{α:Type}{enc:α->List Value}{k:Nat}{A:Option Addr}{n c:Nat}{l:List α}{K:Nat->Prop}(h:Sl enc k w w.heap.size A n c l)(hm:LocK K A l)(hs:w.heap.size<=w'.heap.size)(hk:∀x,x<w.heap.size->K x->w'.heap[x]? =w.heap[x]?):Sl enc k w' w'.heap.size A n c l:=by
 refine⟨?_,h.2⟩;rcases hm with h0|⟨x,off,hA,hx⟩
 · exact .inl h0
 · rcases h.1 with h0|⟨x',off',hA',hx',hc⟩
   · exact .inl h0
   · rw[hA]at hA'
     cases hA'
     refine .inr ⟨x,off,hA,by omega,λi hi j u hu=>?_⟩;rw[<-hc i hi j u hu];exact qaj (p:=⟨x,off+i*k+j,none⟩) (hk x hx' hx)
theorem FrAt.keep{K:Nat->Prop}(h:FrAt K w f d)(hs:w.heap.size<=w'.heap.size)(hk:∀x,x<w.heap.size->K x->w'.heap[x]? =w.heap[x]?):FrAt K w' f d:=
 ⟨⟨h.fin.1.keepK h.grp hs hk,h.fin.2.keepK h.byt hs hk,h.fin.3.keepK h.prt hs hk,h.fin.4.keepK h.hit hs hk⟩,h.grp,h.byt,h.prt,h.hit⟩
theorem LocK.mono{K K':Nat->Prop}{α:Type}{A:Option Addr}{l:List α}(h:LocK K A l)(hk:∀x,K x->K' x):LocK K' A l:=by
 rcases h with h0|⟨x,off,hA,hx⟩
 · exact .inl h0
 · exact .inr ⟨x,off,hA,hk x hx⟩
theorem FrAt.mono{K K':Nat->Prop}(h:FrAt K w f d)(hk:∀x,K x->K' x):FrAt K' w f d:=⟨h.fin,h.grp.mono hk,h.byt.mono hk,h.prt.mono hk,h.hit.mono hk⟩
theorem qbq.range(h:qbq w b a t ty f):w.rangeAt b 2 f.enc:=λj v hv=>by
 have:=h.c (2+j) (v:=v) (by rw[<-hv,Nat.add_comm];rfl)
 exact this
end
end
section
open Go.RowKit
section
variable {g:Own8}{w:World}{lo a b t:Nat}{P:qag}{M:qa4}{ty:TypeId}{f:qa5}{d:FrD}
theorem qbx(h:WSt g w lo a P M b t ty f d)(k:Nat)(hk7:k<7)(hph:f.phase=(k:Int))(hst:k=1\/k=3\/k=4->0<=f.at'/\f.at'<(f.call.gn:Int)/\f.pn=f.call.gn)(hst5:k=5->f.pn=f.call.gn):
 Calls prog 144 #[.pointer (some ⟨b,0,none⟩)] w λe w'=>e=.returned (.bool true)/\w'=w:=by
 have c6:=h.box.c 6 rfl;have c7:=h.box.c 7 rfl;have c22:=h.box.c 22 rfl;have c23:=h.box.c 23 rfl;have hl:=h.box.lt;rw[hph]at c7;clear h hph;go_enter func144,ntmps144;rcases k with _|_|_|_|_|_|_|k
 · have c7':w.cell? ⟨b,7,none⟩=some (.int .i64 0):=c7
   clear c7;clear hst hst5;go_wp2_with fail;go_ret;exact⟨rfl,rfl⟩
 · have c7':w.cell? ⟨b,7,none⟩=some (.int .i64 1):=c7
   clear c7;obtain⟨a1,a2,a3⟩:=hst (by decide);have d1:decide (0<=f.at')=true:=decide_eq_true a1;have d2:decide (f.at'<(f.call.gn:Int))=true:=decide_eq_true a2;have d3:((f.pn:Int)==(f.call.gn:Int))=true:=by rw[beq_iff_eq,a3]
   clear hst hst5;go_wp2_with fail;go_ret;exact⟨rfl,rfl⟩
 · have c7':w.cell? ⟨b,7,none⟩=some (.int .i64 2):=c7
   clear c7;clear hst hst5;go_wp2_with fail;go_ret;exact⟨rfl,rfl⟩
 · have c7':w.cell? ⟨b,7,none⟩=some (.int .i64 3):=c7
   clear c7;obtain⟨a1,a2,a3⟩:=hst (by decide);have d1:decide (0<=f.at')=true:=decide_eq_true a1;have d2:decide (f.at'<(f.call.gn:Int))=true:=decide_eq_true a2;have d3:((f.pn:Int)==(f.call.gn:Int))=true:=by rw[beq_iff_eq,a3]
   clear hst hst5;go_wp2_with fail;go_ret;exact⟨rfl,rfl⟩
 · have c7':w.cell? ⟨b,7,none⟩=some (.int .i64 4):=c7
   clear c7;obtain⟨a1,a2,a3⟩:=hst (by decide);have d1:decide (0<=f.at')=true:=decide_eq_true a1;have d2:decide (f.at'<(f.call.gn:Int))=true:=decide_eq_true a2;have d3:((f.pn:Int)==(f.call.gn:Int))=true:=by rw[beq_iff_eq,a3]
   clear hst hst5;go_wp2_with fail;go_ret;exact⟨rfl,rfl⟩
 · have c7':w.cell? ⟨b,7,none⟩=some (.int .i64 5):=c7
   clear c7;have a3:=hst5 rfl;have d3:((f.pn:Int)==(f.call.gn:Int))=true:=by rw[beq_iff_eq,a3]
   clear hst hst5;go_wp2_with fail;go_ret;exact⟨rfl,rfl⟩
 · have c7':w.cell? ⟨b,7,none⟩=some (.int .i64 6):=c7
   clear c7;clear hst hst5;go_wp2_with fail;go_ret;exact⟨rfl,rfl⟩
 · omega
def OnR(M:qa4)(f:qa5)(d:FrD)(i:Nat)(M':qa4)(f':qa5)(d':FrD):Prop:=M'=M/\d'=d/\f'= {f with at':=((i+1:Nat):Int),pos:=ByteArray.empty,past:=false,phase:=if i+1=f.call.gn then 5 else 1}
theorem qp5(h:WSt g w lo a P M b t ty f d)(i:Nat)(hi:f.at'=(i:Int))(hb:i<=1000000):Calls prog 258 #[.pointer (some ⟨b,0,none⟩)] w (qal lo a P b t ty (OnR M f d i) g w):=by
 have H:=hid h;have c22:=h.box.c 22 rfl;have c9:=h.box.c 9 rfl;have c10:=h.box.c 10 rfl;have c7:=h.box.c 7 rfl;have f22:=h.box.fr 22;have f9:=h.box.fr 9;have f10:=h.box.fr 10;have f7:=h.box.fr 7;have hl:=h.box.lt;rw[hi]at c22;have hw1:IntKind.i64.wrap ((i:Int)+1)=((i+1:Nat):Int):=by rw[Go.IntWalk.i64_in _ (by omega)];omega
 obtain⟨q,hq⟩:∃q,q=i+1:=⟨_,rfl⟩;rw[<-hq]at hw1;have HQ:=hid hq;clear h hi hb hq;go_enter func258,ntmps258;go_upto_region 3 with fail;generalize hw2:World.setCell _ _ _=w2;obtain⟨f2,hf2⟩:∃f2:qa5,f2= {f with at':=(q:Int),pos:=ByteArray.empty,past:=false,phase:=1}:=⟨_,rfl⟩;have H2:Hid (WSt g w2 lo a P M b t ty f2 d):=hid (by rw[<-hw2,hf2];exact(((H.out.set 22 (.int .i64 (q:Int)) {f with at':=(q:Int)} rfl ⟨rfl,rfl,rfl,rfl⟩).set 9 (.string ByteArray.empty) {f with at':=(q:Int),pos:=ByteArray.empty} rfl ⟨rfl,rfl,rfl,rfl⟩).set 10 (.bool false) {f with at':=(q:Int),pos:=ByteArray.empty,past:=false} rfl ⟨rfl,rfl,rfl,rfl⟩).set 7 (.int .i64 1) {f with at':=(q:Int),pos:=ByteArray.empty,past:=false,phase:=1} rfl ⟨rfl,rfl,rfl,rfl⟩);have HE2:Hid (ExtB lo b g g w w2):=hid (by rw[<-hw2];exact(((ExtB.set 22 _).trans (ExtB.set 9 _)).trans (ExtB.set 10 _)).trans (ExtB.set 7 _));have c22:w2.cell? ⟨b,22,none⟩=some (.int .i64 (q:Int)):=by rw[show(q:Int)=f2.at' by rw[hf2]];exact H2.out.box.c 22 rfl
 have c6:w2.cell? ⟨b,6,none⟩=some (.slice f.call.gA f.call.gn f.call.gc):=by rw[show f.call=f2.call by rw[hf2]];exact H2.out.box.c 6 rfl
 have hl:=H2.out.box.lt;have HF2:=hid hf2;clear hw2 hf2 c9 c10 c7 f22 f9 f10 f7 H;go_cut [32] (λv32 wx=>v32=.bool ((q:Int)==(f.call.gn:Int))/\Below w2.heap.size w2 wx)
 case first =>
  go_quiet (fail);go_wp2_with fail;go_meet;exact⟨rfl,(by with_reducible repeat(first|exact Below.refl _ _|assumption|refine Below.drew ?_|refine qa1 ?_ _|refine Below.alloc ?_ (by first|omega|simp <;> omega) _|refine Below.setCell ?_ (by first|omega|simp <;> omega) _))⟩
 obtain⟨rfl,hb3⟩:=hcut;obtain⟨w3,hw3⟩:∃x,x=wc:=⟨_,rfl⟩;subst hw3;have H3:=hid (H2.out.below hb3);have HE3:=hid (HE2.out.trans (.below hb3));clear hb3 H2 HE2 c22 c6 hl;by_cases hqn:q=f.call.gn
 · have hb:((q:Int)==(f.call.gn:Int))=true:=by rw[beq_iff_eq,hqn]
   have c7:=H3.out.box.c 7 rfl;have f7:=H3.out.box.fr 7;have hl:=H3.out.box.lt;have HN:=hid hqn;clear hqn;go_wp2_with fail;refine bodyPost_ret (v:=.tuple #[]) (by simp[results,results258]) rfl ⟨rfl,M,_,d,⟨rfl,rfl,rfl⟩,g,?_,HE3.out.trans (ExtB.set 7 _)⟩;have h4:=H3.out.set 7 (.int .i64 5) {f2 with phase:=5} rfl ⟨rfl,rfl,rfl,rfl⟩;rw[HF2.out]at h4;rw[<-HQ.out,if_pos HN.out];exact h4
 · have hb:((q:Int)==(f.call.gn:Int))=false:=by rw[beq_eq_false_iff_ne];omega
   have HN:=hid hqn;clear hqn;go_wp2_with fail;refine bodyPost_ret (v:=.tuple #[]) (by simp[results,results258]) rfl ⟨rfl,M,_,d,⟨rfl,rfl,rfl⟩,g,?_,HE3.out⟩;have h4:=H3.out;rw[HF2.out]at h4;rw[<-HQ.out,if_neg HN.out];exact h4
theorem qnn(h:WSt g w lo a P M b t ty f d)(ht:t<M.H.length):Calls prog 205 #[.pointer (some ⟨b,0,none⟩)] w (VTo lo a P b t ty g w {M with H:=M.H.set t 0} {f with phase:=7} d):=by
 have c0:=h.c0;have c1:=h.c1;have hl:=h.box.lt;have TE:=hid (qg4 h.drew ht);clear h;go_enter func205,ntmps205;go_upto_region 0 with fail;go_still_tail 11,(by kernel_rfl);change wpList _ _ _ _ _ (World.drew w);have HE1:Hid (ExtB lo b g g w w.drew):=hid (ExtB.below (Below.refl _ _).drew);generalize hw1:World.drew w=w1 at *;clear hw1 c0 c1 hl;go_wp2_with fail;refine TE.out.mono ?_;rintro r w2⟨rfl,hto⟩;have HTO:=hid hto;clear hto;go_wp2_with fail;exact bodyPost_ret (v:=.tuple #[]) (by simp[results,results205]) rfl ⟨rfl,WTo.trans HE1.out HTO.out⟩
end
end
section
open Go.RowKit
theorem qxc(n:Nat)(h:n<4294967296):bits .and .u64 (n:Int) 4294967295=(n:Int):=by
 have h1:n &&& 4294967295=n:=by
  have:=Nat.and_two_pow_sub_one_eq_mod n 32;rw[show(2:Nat)^32-1=4294967295 by decide]at this;rw[this];omega
 have h2:=bits_and_u64_nat n 4294967295 (by omega) (by omega);rw[h1]at h2;exact h2
theorem qsc(n:Nat)(hn:n<=1000000)(w:World):Calls prog 351 #[.int .u64 1,.int .u64 (n:Int)] w λe w'=>e=.returned (.tuple #[.int .u64 0,.int .u64 (n:Int)])/\w'=w:=by
 have b1:bits .and .u64 1 4294967295=1:=by decide
 have b0:bits .and .u64 0 4294967295=0:=by decide
 have bn:bits .and .u64 (n:Int) 4294967295=(n:Int):=qxc n (by omega);have dn:(n:Int)/4294967296=0:=by omega
 have wn:IntKind.u64.wrap (n:Int)=(n:Int):=Go.IntWalk.u64_in _ (by omega);have w0:IntKind.u64.wrap 0=0:=by decide
 have z0:(0:Int)/4294967296=0:=by decide
 go_enter func351,ntmps351;go_wp2_with fail;refine bodyPost_ret (v:=.tuple #[.int .u64 0,.int .u64 (n:Int)]) (by simp[results,results351]) rfl ⟨rfl,rfl⟩
theorem qz0(n:Nat)(hn:n<=1000000)(w:World):Calls prog 313 #[.int .u64 1,.int .u64 (n:Int)] w λe w'=>e=.returned (.tuple #[.int .u64 0,.int .u64 (n:Int)])/\w'=w:=by
 have TM:=λW=>qsc n hn W
 go_enter func313,ntmps313;go_wp2_with fail;refine(TM _).mono ?_;rintro e w1⟨rfl,hw1⟩;rw[hw1];go_wp2_with fail;refine bodyPost_ret (v:=.tuple #[.int .u64 0,.int .u64 (n:Int)]) (by simp[results,results313]) rfl ⟨rfl,rfl⟩
end
section
open Go.RowKit
theorem Own.setPart8{w:World}{lo:Nat}{b off c:Nat}{l:List qas}(h:Own qas.enc 330 8 w lo (some ⟨b,off,none⟩) c l){i:Nat}(hi:i<l.length){m:Nat}(hm:m<8)(v:Value)(x':qas)(hx:(qas.enc l[i]).set m v=qas.enc x'):
 Own qas.enc 330 8 (w.setCell ⟨b,off+i*8+m,none⟩ v) lo (some ⟨b,off,none⟩) c (l.set i x'):=by
 obtain⟨h1,h2,h3⟩:=h;rcases h3 with h3|⟨b',off',cur,hA,hlo,hh,hs,hc⟩
 · omega
 cases hA
 refine⟨by rw[List.length_set];exact h1,h2,.inr ⟨b,off,cur.setIfInBounds (off+i*8+m) v,rfl,hlo,heap_setCell_same w b _ cur _ _ hh,by simpa using hs,?_⟩⟩;intro j u hu;have hlt:=(List.getElem?_eq_some_iff.1 hu).1;rw[qao qas.enc_len,List.length_set]at hlt;obtain⟨q,r,rfl,hq,hr⟩:∃q r,j=q*8+r/\q<l.length/\r<8:=⟨j/8,j%8,by omega,by omega,by omega⟩;rw[qb0 qas.enc_len _ q (by rw[List.length_set];exact hq) r hr,List.getElem_set]at hu;have hold:=λu'=>hc (q*8+r) u'
 rw[qb0 qas.enc_len l q hq r hr]at hold;rw[Array.getElem?_setIfInBounds];by_cases hqi:i=q
 · subst hqi
   rw[if_pos rfl,<-hx,List.getElem?_set]at hu;by_cases hrm:m=r
   · subst hrm
     rw[if_pos rfl,if_pos (by rw[qas.enc_len];exact hm)]at hu;rw[if_pos (by omega),if_pos (by omega)];exact hu
   · rw[if_neg hrm]at hu
     rw[if_neg (by omega)];exact hold u hu
 · rw[if_neg hqi]at hu
   rw[if_neg (by omega)];exact hold u hu
section
variable {g:Own8}{w w':World}{lo a b t:Nat}{P:qag}{M:qa4}{ty:TypeId}{f:qa5}{d:FrD}
theorem WSt.setPart(h:WSt g w lo a P M b t ty f d){pb po i:Nat}(hA:f.pA=some ⟨pb,po,none⟩)(hi:i<d.ps.length){m:Nat}(hm:m<8)(v:Value)(x':qas)(hx:(qas.enc d.ps[i]).set m v=qas.enc x'):
 WSt g (w.setCell ⟨pb,po+i*8+m,none⟩ v) lo a P M b t ty f {d with ps:=d.ps.set i x'}/\ExtB lo b g g w (w.setCell ⟨pb,po+i*8+m,none⟩ v):=by
 have hpc:¬f.pc=0:=by have:=h.prt.1.1;omega
 have hrow:qa8 f.pA f.pc=some pb:=by rw[hA,qa8,if_neg hpc];rfl
 have hlo:=qe4 h.prt.1 pb hrow;have hg0:=h.prt.2.2 pb hrow;obtain⟨cur,hcur⟩:=qef h.prt.1 hrow;have hne:=h.hty.ne;have hpb:pb≠b:=λe=>h.prt.1.notBox h.box hne.2.1 (e ▸ hrow.symm)
 have hk:∀j,j≠pb->(w.setCell ⟨pb,po+i*8+m,none⟩ v).heap[j]? =w.heap[j]? :=λj hj=>Below.heap_setCell _ _ _ _ hj
 have hz:w.heap.size<=(w.setCell ⟨pb,po+i*8+m,none⟩ v).heap.size:=by rw[World.size_setCell];exact Nat.le_refl _
 have hprt:=h.prt;rw[hA]at hprt;have e0:=ExtB.set (lo:=lo) (b:=pb) (g:=g) (w:=w) (po+i*8+m) v;refine⟨⟨h.ar.set0 hg0 _ _,(hk b (λe=>hpb e.symm)).trans h.box,h.gb,h.hty,h.grp.keep hz (λj _ _ _ hj=>hk j (by omega)) λ_ _=>rfl,h.byt.keep (λj _ _ hr=>hk j λe=>h.byt.1.notBox hcur (by decide) (e ▸ hr)) λ_ _=>rfl,?_,h.hit.keep (λj _ _ hr=>hk j λe=>h.hit.1.notBox hcur (by decide) (e ▸ hr)) λ_ _=>rfl⟩,⟨e0.old,⟨e0.only.os,e0.only.tape,e0.only.output,e0.only.size,λj hj hn=>hk j (λe'=>hn (.inr (.inl (by omega))))⟩⟩⟩;show RowG g qas.enc 330 8 _ lo f.pA f.pn f.pc (d.ps.set i x')
 rw[hA];exact⟨hprt.1.setPart8 hi hm v x' hx,by rw[List.length_set];exact h.prt.2.1,hprt.2.2⟩
end
end
section
open Go.RowKit
def qC5(L:List EntC):Prop:=L.length<=258/\∀x∈L,mayE x=true
theorem qC5.pop{L L':List EntC}(h:qC5 L)(hl:L'=L\/∃i,i<L.length/\L'=L.take i++L.drop (i+1)):qC5 L':=by
 rcases hl with rfl|⟨i,hi,rfl⟩
 · exact h
 · refine⟨by have:=h.1;rw[List.length_append,List.length_take,List.length_drop];omega,λx hx=>h.2 x ?_⟩
   rcases List.mem_append.1 hx with h0|h0
   · exact List.mem_of_mem_take h0
   · exact List.mem_of_mem_drop h0
theorem qC5.put{L:List EntC}(h:qC5 L)(x:EntC):qC5 (putE L x):=by
 refine⟨qvp L x h.1,λy hy=>?_⟩;unfold putE at hy;split at hy
 · rename_i h0
   rcases List.mem_append.1 hy with h1|h1
   · exact h.2 y h1
   · rw[List.mem_singleton]at h1
     rw[h1];exact h0.1
 · exact h.2 y hy
theorem qDn{x:EntC}(h:mayE x=true):2<=x.line/\x.line<258/\¬qa9 x.cls=0:=by
 simp only[mayE,Bool.and_eq_true,decide_eq_true_eq]at h;exact⟨h.1.1.1.1,h.1.1.1.2,by have:=h.1.1.2;omega⟩
theorem qC5.ch{M:qa4}{x:ChgC}{e:Nat}(h:qC5 M.bag):qC5 (qqy M x e):=by
 unfold qqy;split
 · exact h.put _
 · exact h
end
section
open Go.ChangeShapes Go.WideShapes Go.ChangeAt Go.RowKit
theorem qBt:(Rows.topLagRow.inPlace==prog.inPlace 5)=true:=by kernel_rfl
theorem qBv:(Rows.topLagRow.unfollowed==prog.unfollowed 5)=true:=by kernel_rfl
theorem qBw:(Rows.topLagRow.recurses==prog.recurses 5)=true:=by kernel_rfl
theorem qBu:(Rows.topLagRow.named==prog.varsNamed 5)=true:=by kernel_rfl
theorem qC0:mapsRowed prog=true:=by kernel_rfl
theorem qC3:(Rows.topLagRow.plainKeys==prog.plainKeys)=true:=by kernel_rfl
theorem qBy:prog.stopsHeard=true:=by kernel_rfl
theorem qBz:prog.mayEnter=true:=by kernel_rfl
theorem qC2:(Rows.topLagRow.lifted==prog.liftsFinal)=true:=by kernel_rfl
theorem qC1:(prog.make==some Rows.topLagRow.make)=true:=by kernel_rfl
theorem qBx:joinedFacts prog 5 Tryz.f5 Rows.topLagSpec Rows.topLagRow=true:=by
 unfold joinedFacts;repeat' with_reducible refine(Bool.and_eq_true _ _).mpr ⟨?_,?_⟩
 all_goals first|with_reducible exact qBt|with_reducible exact qBv|with_reducible exact qBw|with_reducible exact qBu|with_reducible exact qmo|with_reducible exact qC0|with_reducible exact qC3|with_reducible exact qBy|with_reducible exact qBz|with_reducible exact qC2|with_reducible exact qC1|kernel_rfl
end
end Go.Proofs.YtecikkjbnkhhkaaGreat
