/- A part of the walk. -/
import Derived.Test.YtecikkjbnkhhkaaGreatP12
namespace Go.Proofs.YtecikkjbnkhhkaaGreat
open _root_.Go.Proofs.Tryz
set_option maxHeartbeats 4000000
set_option maxRecDepth 100000
section
open Go.RowKit
theorem qka{a b c:World}{row:Option Nat}(h:a.grownBy b row)(k:b.grownBy c row):a.grownBy c row:=
 ⟨k.os.trans h.os,k.tape.trans h.tape,k.output.trans h.output,Nat.le_trans h.size k.size,λi hi hn=>(k.block i (Nat.lt_of_lt_of_le hi h.size) hn).trans (h.block i hi hn)⟩
def qd1(lo:Nat)(A:Option Addr)(c:Nat)(l:List qa3)(i:Nat)(x:qa3)(w:World)(e:Ending)(w':World):Prop:=
 ∃A' c',e=.returned (.slice A' (l.length+1) c')/\Own qa3.enc 85 5 w' lo A' c' (ins l i x)/\w.grownBy w' (qa8 A c)/\(A'=A/\c'=c\/∃g,A'=some ⟨g,0,none⟩/\w.heap.size<=g)
theorem qni(l:List qa3)(A:Option Addr)(c lo vb:Nat)(x:qa3)(w:World)(own:Own qa3.enc 85 5 w lo A c l)(hv:w.heap[vb]? =some (.cells x.enc.toArray 85 (0,0)))(hlo:lo<=w.heap.size)(hl:l.length<=100000):
 Calls prog 327 #[.slice A l.length c,.int .i64 l.length,.slice (some ⟨vb,0,none⟩) 1 1] w (qd1 lo A c l l.length x w):=by
 have harr:=hid (qdu hv);have hc:=own.len;have hm:=own.max;have H:=hid own;clear own hv;by_cases hcl:c=l.length
 · subst hcl
   go_enter func327,ntmps327;go_wp2_with(at_builtin;refine qdv (l:=l) (m:=[x]) _ rfl (.tmp 23) (.tmp 24) rfl rfl H.out 1 rfl harr.out (by simp;omega) hlo ?_;intro A' c' w' hown hgr hloc);go_ret;exact⟨A',c',rfl,by simpa[ins]using hown,hgr,hloc⟩
 · go_enter func327,ntmps327
   go_wp2_with(at_builtin;refine qdv (l:=l) (m:=[x]) _ rfl (.tmp 23) (.tmp 24) rfl rfl H.out 1 rfl harr.out (by simp;omega) hlo ?_;intro A' c' w' hown hgr hloc);go_ret;exact⟨A',c',rfl,by simpa[ins]using hown,hgr,hloc⟩
theorem qk8(l:List qa3)(b off c lo vb i:Nat)(x:qa3)(w:World)(own:Own qa3.enc 85 5 w lo (some ⟨b,off,none⟩) c l)(hv:w.heap[vb]? =some (.cells x.enc.toArray 85 (0,0)))(hl:l.length<=100000)
 (hi:i<l.length) (hroom:l.length+1<=c) (hne:vb≠b):
 Calls prog 327 #[.slice (some ⟨b,off,none⟩) l.length c,.int .i64 i,.slice (some ⟨vb,0,none⟩) 1 1] w (qd1 lo (some ⟨b,off,none⟩) c l i x w):=by
 obtain⟨i0,hi0,hz0,hz1,hz2⟩:=info_parts qct;have hmax:=own.max;obtain⟨b',off',cur,hA,hlob,hh,hs,hcell⟩:∃b' off' cur,(some (⟨b,off,none⟩:Addr))=some ⟨b',off',none⟩/\lo<=b'/\w.heap[b']? =some (.cells cur 85 (0,0))/\off'+c*5<=cur.size/\∀j (u:Value),(l.flatMap qa3.enc)[j]? =some u->cur[off'+j]? =some u:=by
  rcases own.2.2 with h0|h
  · omega
  · exact h
 cases hA
 have hcm:=own.2.1;have hfl:(l.flatMap qa3.enc).length=l.length*5:=qao qa3.enc_len l;have hone:∀u∈l.flatMap qa3.enc,u.oneCell'=true:=λu hu=>by
  obtain⟨y,_,hy⟩:=List.mem_flatMap.1 hu;exact qa3.enc_one y u hy
 obtain⟨cur1,g1,g2,g3,g4,g5⟩:=qax ((l.flatMap qa3.enc).drop (i*5)) (off+(i+1)*5) w.drew cur hh (by rw[List.length_drop,hfl];omega);obtain⟨W1,hW1⟩:∃W1,W1=w.drew.setCells b (off+(i+1)*5) ((l.flatMap qa3.enc).drop (i*5)):=⟨_,rfl⟩;rw[<-hW1]at g1;obtain⟨cur2,q1,q2,q3,q4,q5⟩:=qax x.enc (off+i*5) W1 cur1 g1 (by rw[qa3.enc_len,g2];omega);have hgr:w.grownBy W1 (some b):=by
  have:=qb4 b ((l.flatMap qa3.enc).drop (i*5)) (off+(i+1)*5) w.drew;rw[<-hW1]at this;exact⟨this.os,this.tape,this.output,this.size,this.block⟩
 have hgr2:=qb4 b x.enc (off+i*5) W1;have hW1v:W1.heap[vb]? =some (.cells x.enc.toArray 85 (0,0)):=by
  rw[hW1,qaa b _ _ _ vb hne];exact hv
 have hcp1:∀ty dc sc,(Builtin.copy_ #[141,141] ty #[.slice (some ⟨b,off+(i+1)*5,none⟩) (l.length-i) dc,.slice (some ⟨b,off+i*5,none⟩) (l.length+1-i) sc]).run prog w.drew=.ok (goInt (Nat.min (l.length+1-i) (l.length-i))) W1:=λty dc sc=>by
  rw[hW1];refine qcn w.drew _ _ ty 85 i0 b _ _ dc ⟨b,off+i*5,none⟩ _ sc _ underlying141 hi0 ?_ ?_ ?_ ?_ (λu hu=>hone u (List.mem_of_mem_drop hu))
  · rw[List.length_drop,hfl,hz1];simp only[Nat.min_def];split <;> omega
  · intro j u hu
    rw[Addr.add_lit];show w.cell? _=_
    rw[cell_of_row w b _ _ _ _ hh,Nat.add_assoc];exact hcell _ u (by rwa [List.getElem?_drop]at hu)
  · intro j hj
    rw[List.length_drop,hfl]at hj;show(w.cell? _).isSome=true
    rw[cell_of_row w b _ _ _ _ hh,Array.getElem?_eq_getElem (by omega)];rfl
  · intro j _
    exact frozen_of_row w b _ _ _ hh
 have hcp2:∀ty dc,(Builtin.copy_ #[141,141] ty #[.slice (some ⟨b,off+i*5,none⟩) (l.length+1-i) dc,.slice (some ⟨vb,0,none⟩) 1 1]).run prog W1=.ok (goInt (Nat.min 1 (l.length+1-i))) (W1.setCells b (off+i*5) x.enc):=λty dc=>by
  refine qcn W1 _ _ ty 85 i0 b _ _ dc ⟨vb,0,none⟩ _ 1 _ underlying141 hi0 ?_ ?_ ?_ ?_ (qa3.enc_one x)
  · rw[qa3.enc_len,hz1];simp only[Nat.min_def];split <;> omega
  · intro j u hu
    rw[Addr.add_lit,Nat.zero_add,cell_of_row W1 vb _ _ _ _ hW1v];simpa using hu
  · intro j hj
    rw[qa3.enc_len]at hj;rw[cell_of_row W1 b _ _ _ _ g1,Array.getElem?_eq_getElem (by omega)];rfl
  · intro j _
    exact frozen_of_row W1 b _ _ _ g1
 have hov:∀lb cb,(callFunc 355 #[.slice (some ⟨vb,0,none⟩) 1 1,.slice (some ⟨b,off+(i+1)*5,none⟩) lb cb]).run prog w=.ok (.value (.bool false)) w:=λlb cb=>by
  rw[run_callFunc_extern func355 (by kernel_rfl) (by kernel_rfl) (by kernel_rfl) (e:=Extern.SlicesOverlaps.overlaps #[141,141] #[4]) (by kernel_rfl),
   Lib.run_overlaps_apart w 141 4 85 underlying141 5 (λ_=>by kernel_rfl) ⟨vb,0,none⟩ ⟨b,off+(i+1)*5,none⟩ 1 1 lb cb hne 85 85 5 cur.size
    (by simp[World.shape?,hv,qa3.enc_len]) (by simp[World.shape?,hh]) (by omega) (frozen_of_row w vb _ _ _ hv) (frozen_of_row w vb _ _ _ hv)]
  rfl
 have hfin:Own qa3.enc 85 5 (W1.setCells b (off+i*5) x.enc) lo (some ⟨b,off,none⟩) c (ins l i x):=by
  refine⟨by rw[qfx l i x (by omega)];exact hroom,hcm,.inr ⟨b,off,cur2,rfl,hlob,q1,by rw[q2,g2];exact hs,qln qa3.enc_len (by omega) (λj u hu=>?_) (λj u hu=>?_) (λj u hu=>?_)⟩⟩
  · have hj:j<i*5:=by
     have:=(List.getElem?_eq_some_iff.1 hu).1;rw[List.length_take]at this;omega
    rw[q3 _ (by omega),g3 _ (by omega)];rw[List.getElem?_take_of_lt hj]at hu;exact hcell j u hu
  · rw[<-Nat.add_assoc]
    exact q5 j u hu
  · rw[q4 _ (by rw[qa3.enc_len];omega)]
    have:=g5 j u hu;rwa [Nat.add_assoc]at this
 have HOV:=hid hov;have HCP1:=hid hcp1;have HCP2:=hid hcp2;have HF:=hid hfin;have HG:=hid (show w.grownBy _ (qa8 (some ⟨b,off,none⟩) c)from(by rw[qa8,if_neg (by omega)];exact qka hgr hgr2));clear hov hcp1 hcp2 hfin hgr hgr2 hW1v hW1 hone hcell hh g1 g3 g4 g5 q1 q3 q4 q5 hi0 hz0 hz1 hz2 hv own hfl g2 q2 hs hcm;have hz1:¬((i:Int)=(l.length:Int)):=by omega
 have hw1:IntKind.i64.wrap ((i:Int)+1)=(i:Int)+1:=by rw[IntKind.wrap_i64];omega
 have hb1:(0:Int)<=(i:Int)+1:=by omega
 have hin:i<=l.length:=by omega
 have htn:((i:Int)+1).toNat=i+1:=by omega
 have hb2:¬(c=i+1):=by omega
 have hb3:(i:Int)+1<=(l.length:Int)+1:=by omega
 have hb4:¬(c=i):=by omega
 have hb5:(i:Int)<=(l.length:Int)+1:=by omega
 go_enter func327,ntmps327;go_wp2_with(simp only[HOV.out]);go_region_law (refine qge rfl (.tmp 73) (.tmp 76) 141 141 rfl (.slice (some ⟨b,off+(i+1)*5,none⟩) (l.length-i) (c-(i+1))) (.slice (some ⟨b,off+i*5,none⟩) (l.length+1-i) (c-i)) (by simp[Act.eval,Act.put]) (by simp[Act.eval,Act.put]) (HCP1.out _ _ _) ?_);all_goals go_wp2_with(refine qbp _ rfl (.tmp 80) (.tmp 81) 141 141 rfl (.slice (some ⟨b,off+i*5,none⟩) (l.length+1-i) (c-i)) (.slice (some ⟨vb,0,none⟩) 1 1) (by simp[Act.eval]) (by simp[Act.eval]) (HCP2.out _ _) ?_)
 all_goals go_ret
 all_goals exact⟨_,c,rfl,HF.out,HG.out,.inl ⟨rfl,rfl⟩⟩
theorem qlm(l:List qa3)(b off c lo vb i:Nat)(x:qa3)(w:World)(own:Own qa3.enc 85 5 w lo (some ⟨b,off,none⟩) c l)(hv:w.heap[vb]? =some (.cells x.enc.toArray 85 (0,0)))(hlo:lo<=w.heap.size)(hl:l.length<=100000)
 (hi:i<l.length) (hroom:c<l.length+1):
 Calls prog 327 #[.slice (some ⟨b,off,none⟩) l.length c,.int .i64 i,.slice (some ⟨vb,0,none⟩) 1 1] w (qd1 lo (some ⟨b,off,none⟩) c l i x w):=by
 obtain⟨i0,hi0,hz0,hz1,hz2⟩:=info_parts qct;have hmax:=own.max;have hlen:=own.len;obtain⟨b',off',cur,hA,hlob,hh,hs,hcell⟩:∃b' off' cur,(some (⟨b,off,none⟩:Addr))=some ⟨b',off',none⟩/\lo<=b'/\w.heap[b']? =some (.cells cur 85 (0,0))/\off'+c*5<=cur.size/\∀j (u:Value),(l.flatMap qa3.enc)[j]? =some u->cur[off'+j]? =some u:=by
  rcases own.2.2 with h0|h
  · omega
  · exact h
 cases hA
 have hfl:(l.flatMap qa3.enc).length=l.length*5:=qao qa3.enc_len l;have hone:∀u∈l.flatMap qa3.enc,u.oneCell'=true:=λu hu=>by
  obtain⟨y,_,hy⟩:=List.mem_flatMap.1 hu;exact qa3.enc_one y u hy
 have hbw:b<w.heap.size:=by
  rcases Nat.lt_or_ge b w.heap.size with h|h
  · exact h
  · rw[Array.getElem?_eq_none h]at hh;cases hh
 have hvw:vb<w.heap.size:=by
  rcases Nat.lt_or_ge vb w.heap.size with h|h
  · exact h
  · rw[Array.getElem?_eq_none h]at hv;cases hv
 have hik:i+(l.length+1-i)=l.length+1:=by omega
 have hkk:(l.length:Int)+1-(i:Int)=((l.length+1-i:Nat):Int):=by omega
 have hold:(Builtin.firstCells i0.size i (.slice (some ⟨b,off,none⟩) i c)).run prog w.drew=.ok ((l.flatMap qa3.enc).take (i*5)).toArray w.drew:=by
  rw[hz1];exact run_firstCells_some w.drew 5 i ⟨b,off,none⟩ i c _ (by rw[List.length_take,hfl];omega) (λj v hj=>by
   rw[Addr.add_lit]
   show w.cell? _=_
   rw[cell_of_row w b _ _ _ _ hh]
   rw[List.getElem?_take]at hj
   split at hj
   · exact hcell j v hj
   · cases hj)
 obtain⟨G,hG⟩:∃G,G=grownCap w (l.length+1) c 85:=⟨_,rfl⟩;obtain⟨ROW,hROW⟩:∃ROW:Array Value,ROW=((l.flatMap qa3.enc).take (i*5)).toArray++Builtin.zeroCells (Value.cells (.agg #[.string ByteArray.empty,.int .u64 0,.int .u64 0,.int .i64 0,.int .i64 0])) (l.length+1-i)++Builtin.zeroCells (Value.cells (.agg #[.string ByteArray.empty,.int .u64 0,.int .u64 0,.int .i64 0,.int .i64 0])) (G-(l.length+1)):=⟨_,rfl⟩;obtain⟨W0,hW0⟩:∃W0,W0=w.drew.alloc (.cells ROW 85):=⟨_,rfl⟩;have hrz:∀ty,(Builtin.append_ #[141,3] ty #[.slice (some ⟨b,off,none⟩) i c,.int .i64 ((l.length:Int)+1-(i:Int))]).run prog w=.ok (.slice (some ⟨w.heap.size,0,none⟩) (l.length+1) G) W0:=λty=>by
  have h:=Lib.run_append_grow_zeros w 141 3 ty 85 i0 _ .i64 .i64 underlying141 underlying3 hi0 hz0 (some ⟨b,off,none⟩) i c _ hold (l.length+1-i) (by omega) (by rw[hz1];omega) (by omega) (by omega) (by rw[hz2];omega) (by rw[hz2,hik];exact growslice_fits hroom (by omega));rw[hik]at h;rw[hkk,hW0,hROW,hG];exact h
 have hGn:l.length+1<=G:=by rw[hG];exact grownCap_ge w _ _ _
 have hGm:G<=maxLen:=by
  rw[hG];exact grownCap_le_maxLen w (l.length+1) c 85 (by unfold maxLen;omega)
 have hG63:G<=9223372036854775807:=by
  have:=hGm;unfold maxLen at this;omega
 have hRsz:ROW.size=G*5:=by
  rw[hROW];simp[Builtin.zeroCells,Value.cells,hfl];omega
 have hRtake:∀j u,((l.flatMap qa3.enc).take (i*5))[j]? =some u->ROW[0+j]? =some u:=λj u hu=>by
  have hj:=(List.getElem?_eq_some_iff.1 hu).1;rw[hROW,Nat.zero_add,Array.append_assoc,Array.getElem?_append_left (by simpa using hj)];simpa using hu
 have hsz0:w.heap.size<W0.heap.size:=by rw[hW0];simp[World.alloc]
 have hW0N:W0.heap[w.heap.size]? =some (.cells ROW 85 (0,0)):=by
  rw[hW0];show(w.drew.heap.push _)[w.drew.heap.size]? =_
  exact Array.getElem?_push_size
 have hW0o:∀j,j<w.heap.size->W0.heap[j]? =w.heap[j]? :=λj hj=>by rw[hW0];exact Below.heap_alloc w.drew _ j hj
 have hgr0:w.grownBy W0 (some b):=⟨by rw[hW0];rfl,by rw[hW0];rfl,by rw[hW0];rfl,Nat.le_of_lt hsz0,λj hj _=>hW0o j hj⟩;obtain⟨cur1,g1,g2,g3,g4,g5⟩:=qax x.enc (0+i*5) W0 ROW hW0N (by rw[qa3.enc_len,hRsz];omega);obtain⟨W1,hW1⟩:∃W1,W1=W0.setCells w.heap.size (0+i*5) x.enc:=⟨_,rfl⟩;rw[<-hW1]at g1;have hgr1:W0.grownBy W1 (some w.heap.size):=by rw[hW1];exact qb4 w.heap.size x.enc (0+i*5) W0
 obtain⟨cur2,q1,q2,q3,q4,q5⟩:=qax ((l.flatMap qa3.enc).drop (i*5)) (0+(i+1)*5) W1.drew cur1 g1 (by rw[List.length_drop,hfl,g2,hRsz];omega);obtain⟨W2,hW2⟩:∃W2,W2=W1.drew.setCells w.heap.size (0+(i+1)*5) ((l.flatMap qa3.enc).drop (i*5)):=⟨_,rfl⟩;rw[<-hW2]at q1;have hgr2:W1.grownBy W2 (some w.heap.size):=by
  have:=qb4 w.heap.size ((l.flatMap qa3.enc).drop (i*5)) (0+(i+1)*5) W1.drew;rw[<-hW2]at this;exact⟨this.os,this.tape,this.output,this.size,this.block⟩
 have hcp1:∀ty dc,(Builtin.copy_ #[141,141] ty #[.slice (some ⟨w.heap.size,0+i*5,none⟩) (l.length+1-i) dc,.slice (some ⟨vb,0,none⟩) 1 1]).run prog W0=.ok (goInt (Nat.min 1 (l.length+1-i))) W1:=λty dc=>by
  rw[hW1];refine qcn W0 _ _ ty 85 i0 w.heap.size _ _ dc ⟨vb,0,none⟩ _ 1 _ underlying141 hi0 ?_ ?_ ?_ ?_ (qa3.enc_one x)
  · rw[qa3.enc_len,hz1];simp only[Nat.min_def];split <;> omega
  · intro j u hu
    rw[Addr.add_lit,Nat.zero_add,cell_of_row W0 vb _ _ _ _ ((hW0o vb hvw).trans hv)];simpa using hu
  · intro j hj
    rw[qa3.enc_len]at hj;rw[cell_of_row W0 _ _ _ _ _ hW0N,Array.getElem?_eq_getElem (by omega)];rfl
  · intro j _
    exact frozen_of_row W0 _ _ _ _ hW0N
 have hcp2:∀ty dc sc,(Builtin.copy_ #[141,141] ty #[.slice (some ⟨w.heap.size,0+(i+1)*5,none⟩) (l.length-i) dc,.slice (some ⟨b,off+i*5,none⟩) (l.length-i) sc]).run prog W1.drew=.ok (goInt (Nat.min (l.length-i) (l.length-i))) W2:=λty dc sc=>by
  rw[hW2];have hbN:b≠w.heap.size:=by omega
  have hhb:W1.drew.heap[b]? =some (.cells cur 85 (0,0)):=by
   show W1.heap[b]? =_
   rw[hW1,qaa _ _ _ _ b hbN,hW0o b hbw];exact hh
  refine qcn W1.drew _ _ ty 85 i0 w.heap.size _ _ dc ⟨b,off+i*5,none⟩ _ sc _ underlying141 hi0 ?_ ?_ ?_ ?_ (λu hu=>hone u (List.mem_of_mem_drop hu))
  · rw[List.length_drop,hfl,hz1];simp only[Nat.min_def];split <;> omega
  · intro j u hu
    rw[Addr.add_lit];rw[cell_of_row W1.drew b _ _ _ _ hhb,Nat.add_assoc];exact hcell _ u (by rwa [List.getElem?_drop]at hu)
  · intro j hj
    rw[List.length_drop,hfl]at hj;rw[cell_of_row W1.drew _ _ _ _ _ g1,Array.getElem?_eq_getElem (by omega)];rfl
  · intro j _
    exact frozen_of_row W1.drew _ _ _ _ g1
 have hfin:Own qa3.enc 85 5 W2 lo (some ⟨w.heap.size,0,none⟩) G (ins l i x):=by
  refine⟨by rw[qfx l i x (by omega)];exact hGn,hGm,.inr ⟨w.heap.size,0,cur2,rfl,hlo,q1,by omega,qln qa3.enc_len (by omega) (λj u hu=>?_) (λj u hu=>?_) (λj u hu=>?_)⟩⟩
  · have hj:j<i*5:=by
     have:=(List.getElem?_eq_some_iff.1 hu).1;rw[List.length_take]at this;omega
    rw[q3 _ (by omega),g3 _ (by omega)];exact hRtake j u hu
  · have hj:=(List.getElem?_eq_some_iff.1 hu).1
    rw[qa3.enc_len]at hj;rw[q3 _ (by omega),<-Nat.add_assoc];exact g5 j u hu
  · have:=q5 j u hu
    rwa [Nat.add_assoc]at this
 have hgrf:w.grownBy W2 (some b):=⟨(hgr2.os.trans hgr1.os).trans hgr0.os,(hgr2.tape.trans hgr1.tape).trans hgr0.tape,(hgr2.output.trans hgr1.output).trans hgr0.output,Nat.le_trans hgr0.size (Nat.le_trans hgr1.size hgr2.size),
  λj hj _=>((hgr2.block j (by have:=hgr1.size;omega) (by simp;omega)).trans (hgr1.block j (by omega) (by simp;omega))).trans (hW0o j hj)⟩
 have HRZ:=hid hrz;have HCP1:=hid hcp1;have HCP2:=hid hcp2;have HF:=hid hfin;have HG:=hid (show w.grownBy W2 (qa8 (some ⟨b,off,none⟩) c)from(by rw[qa8,if_neg (by omega)];exact hgrf));obtain⟨N,hN⟩:∃N,N=w.heap.size:=⟨_,rfl⟩;rw[<-hN]at HRZ HCP1 HCP2 HF;have HN:=hid hN;clear hfin hgrf hcp1 hcp2 hrz hgr2 hW2 q1 q2 q3 q4 q5 hgr1 hW1 g1 g2 g3 g4 g5 hgr0 hW0o hW0N hsz0 hRtake hRsz hGm hW0 hROW hG hold hik hvw hone hfl hcell hs hh hlob hi0 hz0 hz1 hz2 own hv hN hkk;simp only[Nat.zero_add]at HCP1 HCP2;have hz1:¬((i:Int)=(l.length:Int)):=by omega
 have hz3:(c:Int)<(l.length:Int)+1:=by omega
 have hw1:IntKind.i64.wrap ((i:Int)+1)=(i:Int)+1:=by rw[IntKind.wrap_i64];omega
 have hb1:(0:Int)<=(i:Int)+1:=by omega
 have hin:i<=l.length:=by omega
 have htn:((i:Int)+1).toNat=i+1:=by omega
 have hGi:¬(G=i):=by omega
 have hGim:¬(G=i+1):=by omega
 have hci:¬(c=i):=by omega
 have hb3:(i:Int)<=(l.length:Int):=by omega
 go_enter func327,ntmps327;go_wp2_with(first
  |(at_builtin;refine Lib.wpList_append_run _ rfl _ _ _ _ rfl _ _ rfl rfl _ _ (HRZ.out _) ?_)
  |(refine qbp _ rfl (.tmp 43) (.tmp 44) 141 141 rfl (.slice (some ⟨N,i*5,none⟩) (l.length+1-i) (G-i)) (.slice (some ⟨vb,0,none⟩) 1 1) (by simp[Act.eval]) (by simp[Act.eval]) (HCP1.out _ _) ?_))
 go_region_law (refine qge rfl (.tmp 50) (.tmp 53) 141 141 rfl (.slice (some ⟨N,(i+1)*5,none⟩) (l.length-i) (G-(i+1))) (.slice (some ⟨b,off+i*5,none⟩) (l.length-i) (c-i)) (by simp[Act.eval,Act.put]) (by simp[Act.eval,Act.put]) (HCP2.out _ _ _) ?_);all_goals go_wp2
 all_goals go_ret
 all_goals exact⟨_,G,rfl,HF.out,HG.out,.inr ⟨N,rfl,Nat.le_of_eq HN.out.symm⟩⟩
theorem qnj(l:List qa3)(A:Option Addr)(c lo vb i:Nat)(x:qa3)(w:World)(own:Own qa3.enc 85 5 w lo A c l)(hv:w.heap[vb]? =some (.cells x.enc.toArray 85 (0,0)))(hlo:lo<=w.heap.size)(hl:l.length<=100000)
 (hi:i<=l.length) (hne:c=0\/∀b off,A=some ⟨b,off,none⟩->vb≠b):
 Calls prog 327 #[.slice A l.length c,.int .i64 i,.slice (some ⟨vb,0,none⟩) 1 1] w (qd1 lo A c l i x w):=by
 rcases Nat.lt_or_ge i l.length with h|h
 · obtain⟨b,off,rfl,h1,h2⟩:∃b off,A=some ⟨b,off,none⟩/\lo<=b/\b<w.heap.size:=by
    rcases own.lt with h0|h0
    · have:=own.len;omega
    · exact h0
   rcases Nat.lt_or_ge c (l.length+1)with h'|h'
   · exact qlm l b off c lo vb i x w own hv hlo hl h h'
   · exact qk8 l b off c lo vb i x w own hv hl h h' (by rcases hne with hne|hne;exact absurd h' (by omega);exact hne b off rfl)
 · obtain rfl:i=l.length:=by omega
   exact qni l A c lo vb x w own hv hlo hl
end
section
open Go.RowKit
theorem qn2{P:Program}(w:World)(t e ty:TypeId)(z:Value)(ht:P.underlying t=some (.slice e))(hv:∀w,(zeroValue e).run P w=.ok z w)(h1:∀v∈z.cells.toList,v.oneCell'=true)(b o n c:Nat)(hn:0<n)
 (hc:∀j,j<n*z.cells.size->(w.cell? ⟨b,o+j,none⟩).isSome=true) (hf:∀j,j<n*z.cells.size->w.frozen? ⟨b,o+j,none⟩=false):
 (Builtin.clear_ #[t] ty #[.slice (some ⟨b,o,none⟩) n c]).run P w=.ok (.tuple #[]) (w.setCells b o (Builtin.zeroCells z.cells n).toList):=by
 have hlen:(Builtin.zeroCells z.cells n).toList.length=n*z.cells.size:=by simp[Builtin.zeroCells]
 have hone:∀v∈(Builtin.zeroCells z.cells n).toList,v.oneCell'=true:=by
  intro v hv';simp only[Builtin.zeroCells,Array.toList_map,List.mem_map]at hv';obtain⟨i,hi,rfl⟩:=hv';simp at hi;have hpos:0<z.cells.size:=by
   rcases Nat.eq_zero_or_pos z.cells.size with h0|h0
   · rw[h0]at hi;omega
   · exact h0
  have hlt:=Nat.mod_lt i hpos;rw[getElem!_pos z.cells (i%z.cells.size) hlt];exact h1 _ (by simp)
 have hst:=run_storeCells_cells (P:=P) b o (Builtin.zeroCells z.cells n).toList 0 w (by rw[hlen];simpa using hc) (by rw[hlen];simpa using hf) hone;simp only[Nat.add_zero]at hst;obtain⟨m,rfl⟩:∃m,n=m+1:=⟨n-1,by omega⟩;simp[Builtin.clear_,run_underlying ht,hv,hst]
theorem qdz{P:Program}(w:World){ops:Array Oper}{rest:List Oper}{o:Oper}{a:Act}{Q:Exit->Act->World->Prop}(hgd:o.guard=none)(s:Operand)(t:TypeId)
 (ho:o.op=.call {callee:=.builtin .clear,args:=#[s],argTypes:=#[t]}) (v:Value) (hs:a.eval s=v) {v':Value} {w':World}
 (hr:(Builtin.clear_ #[t] o.type #[v]).run P w=.ok v' w') (h:wpList P ops Q rest (a.put o.dst v') w'):wpList P ops Q (o::rest) a w:=
 wpList_plain hgd λ_ hK=>by
  unfold Oper.wp execOp
  simp only[ho,resolve,invoke,builtin,Sem.run_bind,Sem.run_pure,Result.andThen_ok,List.map_toArray,List.map_cons,List.map_nil,hs,hr]
  exact hK _ _ h
theorem Own.cut{w:World}{lo:Nat}{b off c:Nat}{l:List qa3}(h:Own qa3.enc 85 5 w lo (some ⟨b,off,none⟩) c l){i:Nat}(hi:i<=l.length)(hc0:0<c)(vs:List Value)(hvs:i*5+vs.length<=c*5):
 Own qa3.enc 85 5 (w.setCells b (off+i*5) vs) lo (some ⟨b,off,none⟩) c (l.take i):=by
 obtain⟨h1,h2,h3⟩:=h;rcases h3 with h3|⟨b',off',cur,hA,hlo,hh,hs,hc⟩
 · omega
 cases hA
 obtain⟨cur',g1,g2,g3,g4,g5⟩:=qax vs (off+i*5) w cur hh (by omega);refine⟨by rw[List.length_take];omega,h2,.inr ⟨b,off,cur',rfl,hlo,g1,by omega,λj u hu=>?_⟩⟩;have hlt:=(List.getElem?_eq_some_iff.1 hu).1;rw[qao qa3.enc_len,List.length_take]at hlt;rw[qf8 qa3.enc_len,List.getElem?_take_of_lt (by omega)]at hu;rw[g3 _ (by omega)];exact hc j u hu
theorem qnk{a b c:World}{row:Option Nat}(h:a.grownBy b row)(k:b.grownBy c row):a.grownBy c row:=
 ⟨k.os.trans h.os,k.tape.trans h.tape,k.output.trans h.output,Nat.le_trans h.size k.size,λi hi hn=>(k.block i (Nat.lt_of_lt_of_le hi h.size) hn).trans (h.block i hi hn)⟩
theorem qCj(w:World)(a:Addr)(u:Value):w.grownBy (w.setCell a u) (some a.block):=⟨rfl,rfl,rfl,by simp,λi _ hn=>Below.heap_setCell _ _ _ _ λh=>hn (h ▸ rfl)⟩
theorem Own.setLink{w:World}{lo:Nat}{b off c:Nat}{l:List qa3}(h:Own qa3.enc 85 5 w lo (some ⟨b,off,none⟩) c l){i:Nat}(hi:i<l.length)(x:qa3):
 Own qa3.enc 85 5 (w.setCells b (off+i*5) x.enc) lo (some ⟨b,off,none⟩) c (l.set i x):=by
 obtain⟨h1,h2,h3⟩:=h;rcases h3 with h3|⟨b',off',cur,hA,hlo,hh,hs,hc⟩
 · omega
 cases hA
 obtain⟨cur',g1,g2,g3,g4,g5⟩:=qax x.enc (off+i*5) w cur hh (by rw[qa3.enc_len];omega);rw[qa3.enc_len]at g4;refine⟨by rw[List.length_set];exact h1,h2,.inr ⟨b,off,cur',rfl,hlo,g1,by omega,?_⟩⟩;intro j u hu;have hlt:=(List.getElem?_eq_some_iff.1 hu).1;rw[qao qa3.enc_len,List.length_set]at hlt;obtain⟨q,r,rfl,hq,hr⟩:∃q r,j=q*5+r/\q<l.length/\r<5:=⟨j/5,j%5,by omega,by omega,by omega⟩;rw[qb0 qa3.enc_len _ q (by rw[List.length_set];exact hq) r hr,List.getElem_set]at hu;have hold:=λu'=>hc (q*5+r) u'
 rw[qb0 qa3.enc_len l q hq r hr]at hold;by_cases hqi:i=q
 · subst hqi
   rw[if_pos rfl]at hu;have:=g5 r u hu;rwa [Nat.add_assoc]at this
 · rw[if_neg hqi]at hu
   by_cases hlq:q<i
   · rw[g3 _ (by omega)];exact hold u hu
   · rw[g4 _ (by omega)];exact hold u hu
theorem qep{P:Program}{ops:Array Oper}{o:Oper}{a:Act}{w:World}{K:Act->World->Prop}{Q:Exit->Act->World->Prop}{E:Prop}
 (hg:o.guard=none) (d x:Operand) (dT sT:TypeId) (hop:o.op=Op.call {callee:=Callee.builtin Builtin.append,args:=#[d,x],argTypes:=#[dT,sT]})
 (v u:Value) (hd:a.eval d=v) (hx:a.eval x=u) {v':Value} {w':World} (hr:(Builtin.append_ #[dT,sT] o.type #[v,u]).run P w=.ok v' w') (hK:K (a.put o.dst v') w'):
 if Region.wanted o (yielded ops a.tmps)=true then Oper.wp P o a w K Q else E:=by
 have hw:Region.wanted o (yielded ops a.tmps)=true:=by simp[Region.wanted,hg]
 rw[if_pos hw];unfold Oper.wp execOp;simp only[hop,resolve,invoke,builtin,Sem.run_bind,Sem.run_pure,Result.andThen_ok,List.map_toArray,List.map_cons,List.map_nil,hd,hx,hr];exact hK
theorem qju{α:Type}{enc:α->List Value}{e:TypeId}{k:Nat}{P:Program}(w:World)(t ty:TypeId)(i:TypeInfo)(ht:P.underlying t=some (.slice e))(hi:P.info? e=some i)
 (hsize:i.size=k) (hk0:0<k) (hk:∀x,(enc x).length=k) (h1:∀x,∀u∈enc x,u.oneCell'=true)
 {lo b off c:Nat} {l:List α} (own:Own enc e k w lo (some ⟨b,off,none⟩) c l) {B:Nat} {A2:Option Addr} {m:List α} (arr:Arr enc k w B A2 m) (c2:Nat) (hroom:l.length+m.length<=c):
 ∃w',(Builtin.append_ #[t,t] ty #[.slice (some ⟨b,off,none⟩) l.length c,.slice A2 m.length c2]).run P w=.ok (.slice (some ⟨b,off,none⟩) (l.length+m.length) c) w'/\Own enc e k w' lo (some ⟨b,off,none⟩) c (l++m)/\w.grownBy w' (some b)/\w'.heap.size=w.heap.size:=by
 by_cases hm0:m=[]
 · subst hm0
   refine⟨w,?_,by simpa using own,World.grownBy.refl _ _,rfl⟩;have hle:=own.len;cases A2 with
   |none=>simp[Builtin.append_,run_underlying ht,sizeOf,typeInfo,hi,Builtin.lenOf,Builtin.firstCells,hle,storeCells]
   |some a2=>simp[Builtin.append_,run_underlying ht,sizeOf,typeInfo,hi,Builtin.lenOf,Builtin.firstCells,hle,storeCells,loadCells,loadCellsFrom]
 rcases arr with rfl|⟨b2,off2,rfl,hB2,hc2⟩
 · exact absurd rfl hm0
 have hml:0<m.length:=by
  cases m with
  |nil=>exact absurd rfl hm0
  |cons _ _=>simp
 have hnl:(m.flatMap enc).length=m.length*k:=qao hk m;have hnews:∀j u,(m.flatMap enc)[j]? =some u->w.cell? ((⟨b2,off2,none⟩:Addr).add j)=some u:=by
  intro j u hu;have hj:j<m.length*k:=by rw[<-hnl];exact(List.getElem?_eq_some_iff.1 hu).1
  have hq:j/k<m.length:=Nat.div_lt_of_lt_mul (by rw[Nat.mul_comm];exact hj);have hr:j%k<k:=Nat.mod_lt _ hk0;have hjj:j/k*k+j%k=j:=Nat.div_add_mod' j k;rw[Addr.add_lit,<-hjj,<-Nat.add_assoc];refine hc2 (j/k) hq (j%k) u ?_;rw[<-qb0 hk m (j/k) hq (j%k) hr,hjj];exact hu
 have hone:∀u∈m.flatMap enc,u.oneCell'=true:=by
  intro u hu;obtain⟨x,_,hx⟩:=List.mem_flatMap.1 hu;exact h1 x u hx
 have hll:(l.flatMap enc).length=l.length*k:=qao hk l;rcases own.2.2 with h0|⟨b',off',cur,hA,hlob,hh,hs,hc⟩
 · omega
 · cases hA
   subst hsize;have hfit:off+l.length*i.size+(m.flatMap enc).length<=cur.size:=by
    rw[hnl];have:(l.length+m.length)*i.size<=c*i.size:=Nat.mul_le_mul_right _ hroom;rw[Nat.add_mul]at this;omega
   have hrun:=run_append_room_cells (P:=P) w t ty e i ht hi b off l.length c ⟨b2,off2,none⟩ m.length c2 (m.flatMap enc) hnl hnews hone hroom
    (λj hj=>by rw[cell_of_row w b _ _ _ _ hh,Array.getElem?_eq_getElem (by omega)];rfl) (λj hj=>frozen_of_row w b _ _ _ hh)
   obtain⟨cur',g1,g2,g3,g4,g5⟩:=qax (m.flatMap enc) (off+l.length*i.size) w cur hh hfit;refine⟨_,hrun,⟨by simp;omega,own.2.1,.inr ⟨b,off,cur',rfl,hlob,g1,by omega,λj u hu=>?_⟩⟩,qb4 b _ _ w,(qam b _ _ w).2.2.2⟩;rw[List.flatMap_append]at hu;by_cases hj:j<l.length*i.size
   · rw[List.getElem?_append_left (by omega)]at hu
     rw[g3 _ (by omega)];exact hc j u hu
   · rw[List.getElem?_append_right (by omega),hll]at hu
     have:=g5 _ u hu;rwa [show off+l.length*i.size+(j-l.length*i.size)=off+j by omega]at this
theorem Own.takeL{w:World}{lo c:Nat}{A:Option Addr}{l:List qa3}(h:Own qa3.enc 85 5 w lo A c l)(i:Nat):Own qa3.enc 85 5 w lo A c (l.take i):=by
 refine⟨by have:=h.1;rw[List.length_take];omega,h.2.1,?_⟩;rcases h.2.2 with h0|⟨b,off,cur,hA,hlo,hh,hs,hc⟩
 · exact .inl h0
 · refine .inr ⟨b,off,cur,hA,hlo,hh,hs,λj u hu=>hc j u ?_⟩
   rw[qf8 qa3.enc_len]at hu;rw[List.getElem?_take]at hu;split at hu
   · exact hu
   · cases hu
def qut(lo:Nat)(A:Option Addr)(c n:Nat)(l':List qa3)(w:World)(e:Ending)(w':World):Prop:=
 e=.returned (.slice A n c)/\Own qa3.enc 85 5 w' lo A c l'/\w.grownBy w' (qa8 A c)
theorem qwq(l:List qa3)(n b off c lo i:Nat)(w:World)(own:Own qa3.enc 85 5 w lo (some ⟨b,off,none⟩) c l)(hn:l.length=n+1)(hi:i<=n):
 Calls prog 365 #[.slice (some ⟨b,off,none⟩) (n+1) c,.int .i64 i,.int .i64 (i+1)] w (qut lo (some ⟨b,off,none⟩) c n (l.take i++l.drop (i+1)) w):=by
 obtain⟨i0,hi0,hz0,hz1,hz2⟩:=info_parts qct;have hmax:=own.max;have hlen:=own.len;rw[hn]at hlen;have e1:(l.take i).length=i:=by rw[List.length_take];omega
 have e2:(l.drop (i+1)).length=n-i:=by rw[List.length_drop];omega
 have harr:Arr qa3.enc 5 w w.heap.size (if c=i+1 then some ⟨b,off,none⟩else some ⟨b,off+(i+1)*5,none⟩) (l.drop (i+1)):=by
  have:=(own.arr qa3.enc_len).drop (m:=i+1) (c:=c) (by omega) (by omega);simpa[Addr.add_lit]using this
 obtain⟨w1,hr,hown1,hgr1,hsz1⟩:=qju (P:=prog) w.drew 141 141 i0 underlying141 hi0 hz1 (by decide) qa3.enc_len qa3.enc_one ((own.takeL i).drew) (show Arr qa3.enc 5 w.drew w.heap.size _ _ from harr) (c-(i+1)) (by omega);rw[e1,e2,show i+(n-i)=n by omega]at hr;have hl':(l.take i++l.drop (i+1)).length=n:=by rw[List.length_append,e1,e2];omega
 have hclr:∀ty cc,(Builtin.clear_ #[141] ty #[.slice (some ⟨b,off+n*5,none⟩) 1 cc]).run prog w1=.ok (.tuple #[]) (w1.setCells b (off+n*5) (Builtin.zeroCells (Value.cells (.agg #[.string ByteArray.empty,.int .u64 0,.int .u64 0,.int .i64 0,.int .i64 0])) 1).toList):=λty cc=>by
  obtain⟨b',off',cur,hA,_,hh,hs,_⟩:∃b' off' cur,(some (⟨b,off,none⟩:Addr))=some ⟨b',off',none⟩/\lo<=b'/\w1.heap[b']? =some (.cells cur 85 (0,0))/\off'+c*5<=cur.size/\True:=by
   rcases hown1.2.2 with h0|⟨b',off',cur,h1,h2,h3,h4,_⟩
   · omega
   · exact⟨b',off',cur,h1,h2,h3,h4,trivial⟩
  cases hA
  refine qn2 w1 _ 85 ty _ underlying141 (λw=>by simp[zeroValue,typeInfo,hi0,hz0];rfl) (by intro v hv;simp[Value.cells]at hv;rcases hv with rfl|rfl|rfl|rfl|rfl <;> rfl) b (off+n*5) 1 cc (by omega) (λq hq=>?_) (λq _=>frozen_of_row w1 b _ _ _ hh);simp[Value.cells]at hq;rw[cell_of_row w1 b _ _ _ _ hh,Array.getElem?_eq_getElem (by omega)];rfl
 have hfin:Own qa3.enc 85 5 (w1.setCells b (off+n*5) (Builtin.zeroCells (Value.cells (.agg #[.string ByteArray.empty,.int .u64 0,.int .u64 0,.int .i64 0,.int .i64 0])) 1).toList) lo (some ⟨b,off,none⟩) c (l.take i++l.drop (i+1)):=by
  have:=hown1.cut (i:=n) (by omega) (by omega) (Builtin.zeroCells (Value.cells (.agg #[.string ByteArray.empty,.int .u64 0,.int .u64 0,.int .i64 0,.int .i64 0])) 1).toList (by simp[Builtin.zeroCells,Value.cells];omega);rwa [List.take_of_length_le (by omega)]at this
 have hgf:w.grownBy (w1.setCells b (off+n*5) (Builtin.zeroCells (Value.cells (.agg #[.string ByteArray.empty,.int .u64 0,.int .u64 0,.int .i64 0,.int .i64 0])) 1).toList) (qa8 (some ⟨b,off,none⟩) c):=by
  rw[qa8,if_neg (by omega)];exact qnk (show w.grownBy w1 (some b)from⟨hgr1.os,hgr1.tape,hgr1.output,hgr1.size,hgr1.block⟩) (qb4 b _ _ w1)
 have HR:=hid hr;have HCLR:=hid hclr;have HF:=hid hfin;have HG:=hid hgf;clear hr hclr hfin hgf hown1 hgr1 hsz1 harr hi0 hz0 hz1 hz2 own e1 e2 hl' hn;have hz:¬((i:Int)=(i:Int)+1):=by omega
 have hw1:IntKind.i64.wrap ((i:Int)+1)=(i:Int)+1:=by rw[IntKind.wrap_i64];omega
 have htn:((i:Int)+1).toNat=i+1:=by omega
 have hb3:(i:Int)+1<=(n:Int)+1:=by omega
 have hcn:¬(c=n):=by omega
 have hic:i<=c:=by omega
 have hjc:i+1<=c:=by omega
 have hin:i<=n:=hi;have hii:(i:Int)<=(i:Int)+1:=by omega
 have h0i:(0:Int)<=(i:Int)+1:=by omega
 by_cases hci:c=i+1
 · obtain rfl:i=n:=by omega
   rw[if_pos hci]at HR;subst hci;simp only[Nat.sub_self]at HR;go_enter func365,ntmps365;go_wp2_with fail;go_region_law (refine qep rfl (.tmp 22) (.tmp 25) 141 141 rfl (.slice (some ⟨b,off,none⟩) i (i+1)) (.slice (some ⟨b,off,none⟩) 0 0) (by simp[Act.eval,Act.put]) (by simp[Act.eval,Act.put]) HR.out ?_);all_goals go_wp2_with(refine qdz _ rfl (.tmp 31) 141 rfl (.slice (some ⟨b,off+i*5,none⟩) 1 1) (by simp[Act.eval]) (HCLR.out _ _) ?_)
   all_goals go_ret
   all_goals exact⟨rfl,HF.out,HG.out⟩
 · rw[if_neg hci]at HR
   go_enter func365,ntmps365;go_wp2_with fail;go_region_law (refine qep rfl (.tmp 22) (.tmp 25) 141 141 rfl (.slice (some ⟨b,off,none⟩) i c) (.slice (some ⟨b,off+(i+1)*5,none⟩) (n-i) (c-(i+1))) (by simp[Act.eval,Act.put]) (by simp[Act.eval,Act.put]) HR.out ?_);all_goals go_wp2_with(refine qdz _ rfl (.tmp 31) 141 rfl (.slice (some ⟨b,off+n*5,none⟩) 1 (c-n)) (by simp[Act.eval]) (HCLR.out _ _) ?_)
   all_goals go_ret
   all_goals exact⟨rfl,HF.out,HG.out⟩
end
section
open Go.RowKit
theorem Own.setGrp{w:World}{lo:Nat}{b off c:Nat}{l:List qa7}(h:Own qa7.enc 40 5 w lo (some ⟨b,off,none⟩) c l){i:Nat}(hi:i<l.length)(A':Option Addr)(n' c':Nat):
 Own qa7.enc 40 5 (w.setCell ⟨b,off+i*5+4,none⟩ (.slice A' n' c')) lo (some ⟨b,off,none⟩) c (l.modify i λx=>⟨x.kind,x.key,x.val,x.tx,A',n',c'⟩):=by
 obtain⟨h1,h2,h3⟩:=h;rcases h3 with h3|⟨b',off',cur,hA,hlo,hh,hs,hc⟩
 · omega
 cases hA
 refine⟨by rw[List.length_modify];exact h1,h2,.inr ⟨b,off,cur.setIfInBounds (off+i*5+4) (.slice A' n' c'),rfl,hlo,heap_setCell_same w b _ cur _ _ hh,by simpa using hs,?_⟩⟩;intro j u hu;have hlt:=(List.getElem?_eq_some_iff.1 hu).1;rw[qao qa7.enc_len,List.length_modify]at hlt;obtain⟨q,r,rfl,hq,hr⟩:∃q r,j=q*5+r/\q<l.length/\r<5:=⟨j/5,j%5,by omega,by omega,by omega⟩;rw[qb0 qa7.enc_len _ q (by rw[List.length_modify];exact hq) r hr,List.getElem_modify]at hu;have hold:=λu'=>hc (q*5+r) u'
 rw[qb0 qa7.enc_len l q hq r hr]at hold;by_cases hqi:i=q
 · subst hqi
   rw[if_pos rfl]at hu;rcases(by omega:r=0\/r=1\/r=2\/r=3\/r=4)with rfl|rfl|rfl|rfl|rfl
   · rw[Array.getElem?_setIfInBounds_ne (by omega)];exact hold u hu
   · rw[Array.getElem?_setIfInBounds_ne (by omega)];exact hold u hu
   · rw[Array.getElem?_setIfInBounds_ne (by omega)];exact hold u hu
   · rw[Array.getElem?_setIfInBounds_ne (by omega)];exact hold u hu
   · simp only[qa7.enc,List.getElem?_cons_succ,List.getElem?_cons_zero,Option.some.injEq]at hu
     subst hu;rw[Nat.add_assoc off,Array.getElem?_setIfInBounds_self_of_lt (by omega)]
 · rw[if_neg hqi]at hu
   rw[Array.getElem?_setIfInBounds_ne (by omega)];exact hold u hu
theorem qgg{α:Type}{enc:α->List Value}{e:TypeId}{k lo b:Nat}{A:Option Addr}{c:Nat}{l:List α}(hb:b<lo):∀(vs:List Value) (o:Nat) (w:World),Own enc e k w lo A c l->Own enc e k (w.setCells b o vs) lo A c l
 | [],_,_,h=>h
 |v::r,o,_,h=>qgg hb r (o+1) _ (h.setCell (p:=⟨b,o,none⟩) hb v)
def Sims(gs g:List qa7):Prop:=gs.length=g.length/\∀i (h1:i<gs.length) (h2:i<g.length),CSim gs[i] g[i]/\gs[i].gc<=9223372036854775807
theorem Sims.refl{g:List qa7}(h:∀x∈g,x.gc<=9223372036854775807):Sims g g:=⟨rfl,λ_i h1 _=>⟨CSim.refl _,h _ (List.getElem_mem h1)⟩⟩
theorem Sims.set{gs g:List qa7}(h:Sims gs g){i:Nat}(hi:i<g.length)(h0:g[i].gn=0)(A:Option Addr){c:Nat}(hc:c<=9223372036854775807):Sims (gs.modify i λx=>⟨x.kind,x.key,x.val,x.tx,A,0,c⟩) g:=by
 refine⟨by rw[List.length_modify];exact h.1,λj h1 h2=>?_⟩;rw[List.length_modify]at h1;rw[List.getElem_modify];have hs:=h.2 j h1 h2;split
 · rename_i e
   subst e;exact⟨⟨hs.1.kind,hs.1.key,hs.1.val,hs.1.to',h0.symm⟩,hc⟩
 · exact hs
def qjg(kind:Int)(key val to':ByteArray)(g:List qa7)(w:World)(e:Ending)(w':World):Prop:=
 ∃A c gs,e=.returned (.agg (qch kind key val to' A g.length c).toArray)/\Arr qa7.enc 5 w' w'.heap.size A gs/\g.length<=c/\c<=9223372036854775807/\Sims gs g/\Below w.heap.size w w'/\(gs=[]\/∃x off,A=some ⟨x,off,none⟩/\w.heap.size<=x)
theorem qAq{W W':World}{n p:Nat}{u v0 v1 v2 v3 v4:Value}(hb:Below W.heap.size W W')(hn:n<W.heap.size)(hp:p<W.heap.size)
 (h:W.cell? ⟨n,4,none⟩=some u/\W.cell? ⟨p,0,none⟩=some v0/\W.cell? ⟨p,1,none⟩=some v1/\W.cell? ⟨p,2,none⟩=some v2/\W.cell? ⟨p,3,none⟩=some v3/\W.cell? ⟨p,4,none⟩=some v4):
 W'.cell? ⟨n,4,none⟩=some u/\W'.cell? ⟨p,0,none⟩=some v0/\W'.cell? ⟨p,1,none⟩=some v1/\W'.cell? ⟨p,2,none⟩=some v2/\W'.cell? ⟨p,3,none⟩=some v3/\W'.cell? ⟨p,4,none⟩=some v4:=by
 rw[hb.cell (p:=⟨n,4,none⟩) hn,hb.cell (p:=⟨p,0,none⟩) hp,hb.cell (p:=⟨p,1,none⟩) hp,hb.cell (p:=⟨p,2,none⟩) hp,hb.cell (p:=⟨p,3,none⟩) hp,hb.cell (p:=⟨p,4,none⟩) hp];exact h
theorem qnr(kind:Int)(key val to':ByteArray)(A:Option Addr)(c:Nat)(w:World):(Instr.field 89 (.agg (qch kind key val to' A 0 c).toArray) 0).run prog w=.ok (.agg #[.int .i64 kind,.string key,.string val,.string to',.slice A 0 c]) w:=by kernel_rfl
theorem qqi(kind:Int)(key val to':ByteArray)(A:Option Addr)(c:Nat)(w:World):(Instr.field 40 (.agg #[.int .i64 kind,.string key,.string val,.string to',.slice A 0 c]) 4).run prog w=.ok (.slice A 0 c) w:=by kernel_rfl
theorem qwg{w:World}{lo b off c i:Nat}{l:List qa7}(h:Own qa7.enc 40 5 w lo (some ⟨b,off,none⟩) c l)(hi:i<l.length):w.cell? ⟨b,off+i*5+4,none⟩=some (.slice l[i].gA l[i].gn l[i].gc):=by
 obtain⟨b',off',hA,_,_,_,_,_,k4⟩:=(h.arr qa7.enc_len).call0 hi;cases hA
 exact k4
theorem qcq{W:World}{b j n i:Nat}{x:Value}(h:n≠b):(W.setCell ⟨b,j,none⟩ x).cell? ⟨n,i,none⟩=W.cell? ⟨n,i,none⟩:=by
 simp[go_sem]
theorem qAp{W:World}{n p b j:Nat}{x u v0 v1 v2 v3 v4:Value} 
 (h:W.cell? ⟨n,4,none⟩=some u/\W.cell? ⟨p,0,none⟩=some v0/\W.cell? ⟨p,1,none⟩=some v1/\W.cell? ⟨p,2,none⟩=some v2/\W.cell? ⟨p,3,none⟩=some v3/\W.cell? ⟨p,4,none⟩=some v4) (hn:n≠b) (hp:p≠b):
 (W.setCell ⟨b,j,none⟩ x).cell? ⟨n,4,none⟩=some u/\(W.setCell ⟨b,j,none⟩ x).cell? ⟨p,0,none⟩=some v0/\(W.setCell ⟨b,j,none⟩ x).cell? ⟨p,1,none⟩=some v1/\(W.setCell ⟨b,j,none⟩ x).cell? ⟨p,2,none⟩=some v2/\(W.setCell ⟨b,j,none⟩ x).cell? ⟨p,3,none⟩=some v3/\(W.setCell ⟨b,j,none⟩ x).cell? ⟨p,4,none⟩=some v4:=by
 rw[qcq hn,qcq hp,qcq hp,qcq hp,qcq hp,qcq hp];exact h
theorem qtu(kind:Int)(key val to':ByteArray)(gA:Option Addr)(g:List qa7)(gc:Nat)(w:World)(hA:Arr qa7.enc 5 w w.heap.size gA g)(hc:g.length<=gc)(hm:gc<=9223372036854775807)(hl:g.length<=100000)(h0:0<g.length)(hgn:∀x∈g,x.gn=0)(hgc:∀x∈g,x.gc<=9223372036854775807):
 Calls prog 81 #[.agg #[.int .i64 kind,.string key,.string val,.string to',.slice gA g.length gc]] w (qjg kind key val to' g w):=by
 have HA:=hid hA;have HGN:=hid hgn;have HGC:=hid hgc;clear hA hgn hgc;go_enter func81,ntmps81;go_wp2_with fail;refine(qhx g gA gc _ ((HA.out.below (by repeat(first|exact Below.refl _ _|assumption|refine Below.drew ?_|refine qa1 ?_ _|refine Below.alloc ?_ (by first|omega|simp <;> omega) _|refine Below.setCell ?_ (by first|omega|simp <;> omega) _))).more (by first|omega|simp <;> omega)) hc hm (by omega)).mono ?_;rintro e w1⟨A1,c1,rfl,hown,hb1⟩;have hz:=hb1.size;simp only[World.size_alloc]at hz;have hc1:=hown.max;have hc2:=hown.len;obtain⟨b1,o1,rfl,hlo1⟩:∃b1 o1,A1=some ⟨b1,o1,none⟩/\w.heap.size+2<=b1:=by
  rcases hown.lt with h|⟨b,off,hA,hlo,_⟩
  · omega
  · exact⟨b,off,hA,by simpa using hlo⟩
 have BX:w1.heap[w.heap.size]? =some (.cells #[.int .i64 kind,.string key,.string val,.string to',.slice gA g.length gc] 40 (0,0)):=(hb1.block _ (by simp;omega)).trans (by rw[qa2,if_neg (by simp),qa2,if_pos rfl]);obtain⟨cur,BY,hcur⟩:∃cur,w1.heap[w.heap.size+1]? =some (.cells cur 89 (0,0))/\cur.size=28:=⟨_,(hb1.block _ (by simp)).trans (by rw[qa2,if_pos (by simp)]),rfl⟩;have x0:=cell_of_row w1 _ 0 _ _ _ BX;have x1:=cell_of_row w1 _ 1 _ _ _ BX;have x2:=cell_of_row w1 _ 2 _ _ _ BX;have x3:=cell_of_row w1 _ 3 _ _ _ BX;have x4:=cell_of_row w1 _ 4 _ _ _ BX;have f4:=frozen_of_row w1 _ 4 _ _ BX;have hl1:w.heap.size<w1.heap.size:=by omega
 have hl2:w.heap.size+1<w1.heap.size:=by omega
 have bw1:Below w.heap.size w w1:=Below.trans (by repeat(first|exact Below.refl _ _|assumption|refine Below.drew ?_|refine qa1 ?_ _|refine Below.alloc ?_ (by first|omega|simp <;> omega) _|refine Below.setCell ?_ (by first|omega|simp <;> omega) _)) (hb1.mono (show w.heap.size<=_ from(by first|omega|simp <;> omega)));have HCU:=hid hcur;have HO1:=hid (hown.lower (lo':=w.heap.size+2) (by simp));clear hown hb1 hcur;go_wp2_with fail;obtain⟨W,hW⟩:∃W,W=w1.setCell ⟨w.heap.size,4,none⟩ (.slice (some ⟨b1,o1,none⟩) g.length c1):=⟨_,rfl⟩;rw[<-hW];have y0:W.cell? ⟨w.heap.size,0,none⟩=some (.int .i64 kind):=by rw[hW];simp[go_sem,x0]
 have y1:W.cell? ⟨w.heap.size,1,none⟩=some (.string key):=by rw[hW];simp[go_sem,x1]
 have y2:W.cell? ⟨w.heap.size,2,none⟩=some (.string val):=by rw[hW];simp[go_sem,x2]
 have y3:W.cell? ⟨w.heap.size,3,none⟩=some (.string to'):=by rw[hW];simp[go_sem,x3]
 have y4:W.cell? ⟨w.heap.size,4,none⟩=some (.slice (some ⟨b1,o1,none⟩) g.length c1):=by rw[hW];simp[go_sem,x4]
 have HYS:=hid (And.intro y0 (And.intro y1 (And.intro y2 (And.intro y3 y4))));have bwW:Below w.heap.size w W:=by rw[hW];exact bw1.setCell (Nat.le_refl _) _
 have BYW:W.heap[w.heap.size+1]? =some (.cells cur 89 (0,0)):=by
  rw[hW];exact(Below.heap_setCell _ _ _ _ (by show w.heap.size+1≠w.heap.size;omega)).trans BY
 have HOW:=hid (show Own qa7.enc 40 5 W (w.heap.size+2) (some ⟨b1,o1,none⟩) c1 g by rw[hW];exact HO1.out.setCell (by show w.heap.size<w.heap.size+2;omega) _);have hWs:w.heap.size+2<=W.heap.size:=by rw[hW];simp[World.setCell];omega
 clear hW x0 x1 x2 x3 x4 f4 BX BY bw1 y0 y1 y2 y3 HO1;have HBYW:=hid BYW;have HB:=hid bwW;clear BYW bwW;go_loopw [12] (λvi wr=>∃(k:Nat) (gs:List qa7),k<=g.length/\vi=.int .i64 k/\Below (w.heap.size+2) W wr/\Own qa7.enc 40 5 wr (w.heap.size+2) (some ⟨b1,o1,none⟩) c1 gs/\Sims gs g) (λvi _=>g.length-(intOf vi).toNat)
 case atStart=>exact⟨0,g,Nat.zero_le _,rfl,Below.refl _ _,HOW.out,Sims.refl HGC.out⟩
 case round =>
  clear y4;obtain⟨k,gs,hkl,rfl,hb,hown,hsim⟩:=hrel;have HS:=hid hsim;have HO:=hid hown;have HBR:=hid hb;have hbs:=hb.size;have hb1s:b1<wr.heap.size:=by
   rcases hown.lt with h|⟨b,off,hA,_,hlt⟩
   · omega
   · cases hA;exact hlt
  have y4:=(hb.cell (p:=⟨w.heap.size,4,none⟩) (by simp)).trans HYS.out.2.2.2.2;have hl1r:w.heap.size<wr.heap.size:=by omega
  clear hb hown hsim;by_cases hlt:k<g.length
  · have hlt':k<gs.length:=by have:=HS.out.1;omega
    have z0:(0:Int)<=(k:Int):=by omega
    have z1:(k:Int)<(g.length:Int):=by omega
    obtain⟨b',off',hA1,hB',k0,k1,k2,k3,k4⟩:=(HO.out.arr qa7.enc_len).call0 hlt';cases hA1
    have hgn0:gs[k].gn=0:=by rw[(HS.out.2 k hlt' hlt).1.gn];exact HGN.out _ (List.getElem_mem hlt)
    have hgcm:=(HS.out.2 k hlt' hlt).2;rw[hgn0]at k4;obtain⟨X,hX⟩:∃X,X=gs[k]:=⟨_,rfl⟩;rw[<-hX]at k0 k1 k2 k3 k4 hgcm;have HX:=hid hX;clear hX;go_upto_region 5 with fail;obtain⟨V,hV⟩:∃V,V=wr.alloc (.cells #[.int .i64 X.kind,.string X.key,.string X.val,.string X.tx,.slice X.gA 0 X.gc] 40):=⟨_,rfl⟩;rw[<-hV];have bV:Below wr.heap.size wr V:=by rw[hV];exact(by repeat(first|exact Below.refl _ _|assumption|refine Below.drew ?_|refine qa1 ?_ _|refine Below.alloc ?_ (by first|omega|simp <;> omega) _|refine Below.setCell ?_ (by first|omega|simp <;> omega) _))
    have hVs:V.heap.size=wr.heap.size+1:=by rw[hV];simp
    have v4:=(bV.cell (p:=⟨w.heap.size,4,none⟩) hl1r).trans y4;have u0:V.cell? ⟨wr.heap.size,0,none⟩=some (.int .i64 X.kind):=by rw[hV];simp[go_sem]
    have u1:V.cell? ⟨wr.heap.size,1,none⟩=some (.string X.key):=by rw[hV];simp[go_sem]
    have u2:V.cell? ⟨wr.heap.size,2,none⟩=some (.string X.val):=by rw[hV];simp[go_sem]
    have u3:V.cell? ⟨wr.heap.size,3,none⟩=some (.string X.tx):=by rw[hV];simp[go_sem]
    have u4:V.cell? ⟨wr.heap.size,4,none⟩=some (.slice X.gA 0 X.gc):=by rw[hV];simp[go_sem]
    have HALL:=hid (And.intro v4 (And.intro u0 (And.intro u1 (And.intro u2 (And.intro u3 u4)))));have HOV:=hid (HO.out.below bV);have HBV:=hid (HBR.out.trans (bV.mono (by omega)));have hnV:w.heap.size<V.heap.size:=by omega
    have hpV:wr.heap.size<V.heap.size:=by omega
    have hbV:b1<V.heap.size:=by omega
    have HGM:=hid hgcm;have hnb:w.heap.size≠b1:=by omega
    have hpb:wr.heap.size≠b1:=by omega
    clear hV bV k0 k1 k2 k3 k4 y4 hgcm;have hfd:=qnr X.kind X.key X.val X.tx;have hfd2:=qqi X.kind X.key X.val X.tx;go_region_held3 (λW'=>W'.cell? ⟨w.heap.size,4,none⟩=some (.slice (some ⟨b1,o1,none⟩) g.length c1)/\W'.cell? ⟨wr.heap.size,0,none⟩=some (.int .i64 X.kind)/\W'.cell? ⟨wr.heap.size,1,none⟩=some (.string X.key)/\W'.cell? ⟨wr.heap.size,2,none⟩=some (.string X.val)/\W'.cell? ⟨wr.heap.size,3,none⟩=some (.string X.tx)/\W'.cell? ⟨wr.heap.size,4,none⟩=some (.slice X.gA 0 X.gc)) (first|exact qAp (qAq (W:=V) st2 hnV hpV HALL.out) hnb hpb|exact qAq (W:=V) (by with_reducible repeat(first|exact Below.refl _ _|assumption|refine Below.drew ?_|refine qa1 ?_ _|refine Below.alloc ?_ (by first|omega|simp <;> omega) _|refine Below.setCell ?_ (by first|omega|simp <;> omega) _)) hnV hpV HALL.out|go_keep) (first|(go_at_call 81;refine(qjb X.kind X.key X.val X.tx X.gA X.gc _ HGM.out).mono ?_;rintro e w2⟨A2,c2,rfl,hc2m,hb2⟩;have st2:Below V.heap.size V w2:=(by refine Below.trans ?_ (hb2.mono ?_);exact(by with_reducible repeat(first|exact Below.refl _ _|assumption|refine Below.drew ?_|refine qa1 ?_ _|refine Below.alloc ?_ (by first|omega|simp <;> omega) _|refine Below.setCell ?_ (by first|omega|simp <;> omega) _));(first|exact Nat.le_refl _|(simp;done)));have hO2:=hid (HOV.out.below st2);have e4:=qwg hO2.out hlt';have f4:=hO2.out.frozen rfl (show 0<c1 by omega) (o1+k*5+4)));have HSET:=hid (hO2.out.setGrp hlt' A2 0 c2);have HS2:=hid (HS.out.set hlt (HGN.out _ (List.getElem_mem hlt)) A2 hc2m);have HB2:=hid (HBV.out.trans (st2.mono (by omega)));go_wp2_with fail;exact⟨⟨k+1,_,by omega,by go_num,HB2.out.setCell (by show w.heap.size+2<=b1;omega) _,HSET.out,HS2.out⟩,by simp[intOf];omega⟩
  · have y0:=(HBR.out.cell (p:=⟨w.heap.size,0,none⟩) (by simp)).trans HYS.out.1
    have y1:=(HBR.out.cell (p:=⟨w.heap.size,1,none⟩) (by simp)).trans HYS.out.2.1;have y2:=(HBR.out.cell (p:=⟨w.heap.size,2,none⟩) (by simp)).trans HYS.out.2.2.1;have y3:=(HBR.out.cell (p:=⟨w.heap.size,3,none⟩) (by simp)).trans HYS.out.2.2.2.1;have HT:=hid (qai ((HBR.out.block (w.heap.size+1) (by omega)).trans HBYW.out) HCU.out);have HSf:=hid (all_oneCell_toArray (qlv kind key val to' (some ⟨b1,o1,none⟩) g.length c1));have hgl:gs.length=g.length:=HS.out.1;have HGL:=hid hgl;clear hgl;go_wp2_with(refine wpList_store_mid (by first|rfl|(exfalso;fail)) 89 (.tmp 2) (.tmp 28) (by first|rfl|fail) (w.heap.size+1) 0 (qch kind key val to' (some ⟨b1,o1,none⟩) g.length c1).toArray rfl (by rfl) HT.out qaf HSf.out ?_);have hO3:=qgg (b:=w.heap.size+1) (by omega) (qch kind key val to' (some ⟨b1,o1,none⟩) g.length c1) 0 _ HO.out;refine bodyPost_ret (v:=.agg (qch kind key val to' (some ⟨b1,o1,none⟩) g.length c1).toArray) ?_ rfl ⟨_,c1,gs,rfl,hO3.arr qa7.enc_len,hc2,hc1,HS.out,?_,.inr ⟨b1,o1,rfl,by omega⟩⟩
    · exact qah results81 _ _ (w.heap.size+1) _ _ rfl (World.rangeAt_setCells_same wr (w.heap.size+1) 0 (qch kind key val to' (some ⟨b1,o1,none⟩) g.length c1) HT.out) underlying89 rfl qaf
    · exact qae (by omega) _ _ _ (HB.out.trans (HBR.out.mono (by omega)))
theorem qtv(kind:Int)(key val to':ByteArray)(gA:Option Addr)(g:List qa7)(gc:Nat)(w:World)(hA:Arr qa7.enc 5 w w.heap.size gA g)(hc:g.length<=gc)(hm:gc<=9223372036854775807)(hl:g.length<=100000)(hgn:∀x∈g,x.gn=0)(hgc:∀x∈g,x.gc<=9223372036854775807):
 Calls prog 81 #[.agg #[.int .i64 kind,.string key,.string val,.string to',.slice gA g.length gc]] w (qjg kind key val to' g w):=by
 cases g with
 |nil=>exact(qjb kind key val to' gA gc w hm).mono λ_ _ ⟨A,c,h1,h2,h3⟩=>⟨A,c,[],h1,Arr.nil,Nat.zero_le _,h2,⟨rfl,λi h=>absurd h (by simp)⟩,h3,.inl rfl⟩
 |cons x g=>exact qtu kind key val to' gA (x::g) gc w hA hc hm hl (by simp) hgn hgc
end
end Go.Proofs.YtecikkjbnkhhkaaGreat
