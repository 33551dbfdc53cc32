/- A part of the walk. -/
import Derived.Test.YtecikkjbnkhhkaaGreatP15
namespace Go.Proofs.YtecikkjbnkhhkaaGreat
open _root_.Go.Proofs.Tryz
set_option maxHeartbeats 2000000
set_option maxRecDepth 100000
open Go.RowKit
theorem ql5{L:List qa3}{at' n:Nat}(h:n<=L.length)(h0:¬n=0)(ha:at'<L.length)(z:qa3):qd4 L at' n=L[at']::qd4 (L.set at' z) ((at'+1)%L.length) (n-1):=by
 have hm:(at'+1)%L.length<L.length:=Nat.mod_lt _ (by omega);apply List.ext_getElem
 · rw[List.length_cons,qbf h,qbf (by rw[List.length_set];omega)]
   omega
 · intro i h1 h2
   rw[qbf h]at h1;rw[qe6 h ha h1];cases i with
   |zero =>
    simp only[List.getElem_cons_zero,Nat.add_zero];congr 1;exact Nat.mod_eq_of_lt ha
   |succ i =>
    rw[List.getElem_cons_succ,qe6 (by rw[List.length_set];omega) (by rw[List.length_set];exact hm) (by omega)];have e:((at'+1)%L.length+i)%(L.set at' z).length=(at'+(i+1))%L.length:=by
     rw[List.length_set,Nat.mod_add_mod];congr 1;omega
    have hne:at'≠(at'+(i+1))%L.length:=by
     intro he;by_cases hlt:at'+(i+1)<L.length
     · rw[Nat.mod_eq_of_lt hlt]at he
       omega
     · rw[Nat.mod_eq_sub_mod (by omega),Nat.mod_eq_of_lt (by omega)]at he
       omega
    simp only[e];rw[List.getElem_set_ne hne]
def qks(lo p:Nat)(A:Option Addr)(c:Nat)(Q:List qa3)(w:World)(e:Ending)(w':World):Prop:=∃x Q',Q=x::Q'/\e=.returned (.tuple #[x.val,.bool true])/\qv1 lo p A c Q' w w'
theorem qn3(w:World)(lo p:Nat)(A:Option Addr)(c:Nat)(L:List qa3)(at' n:Nat)(h:qbo w lo p A c L at' n)(hn:¬n=0)(hlow:lo<=w.heap.size)(hL:L.length<=1000000):Calls prog 366 #[.pointer (some ⟨p,0,none⟩)] w (qks lo p A c (qd4 L at' n) w):=by
 have hp:=qa0 h.box;have hfit:=h.fit.1;have hat:at'<L.length:=by rcases h.fit.2 with h0|h0 <;> omega
 have H:=hid h;have HX:=hid (show L[at'].val=.agg #[.string L[at'].key,.int .u64 (L[at'].id:Int),.int .u64 (L[at'].ver:Int),.int .i64 L[at'].line,.int .i64 L[at'].cls]from rfl);clear h;go_enter func366,ntmps366;go_upto_region 1 with fail;generalize hw1:World.alloc w _=w1;have R1:w1.heap[w.heap.size]? =some (.cells qak.enc.toArray 85 (0,0)):=by rw[<-hw1];exact(qa2 _ _ _).trans (if_pos rfl)
 have b1:Below w.heap.size w w1:=by rw[<-hw1];exact(Below.refl _ _).alloc (Nat.le_refl _) _
 have HR1:=hid R1;have HB1:=hid b1;have H1:=hid (H.out.keep (b1.block p hp) (λb _ hlt=>b1.block b hlt));have hl1:=qa0 R1;clear hw1 R1 b1;go_wp2_with fail;refine(qgf w1 lo p A c L at' n H1.out hn hat).mono ?_;rintro e w2⟨rfl,b2⟩;rw[HX.out];have HB2:=hid (HB1.out.trans (b2.mono HB1.out.size));have HR2:=hid ((b2.block _ hl1).trans HR1.out);clear b2 HB1 HR1 H1;go_upto_region 4 with fail;generalize hw3:World.alloc _ _=w3;have b3:Below w2.heap.size w2 w3:=by rw[<-hw3];exact((Below.refl _ _).alloc (Nat.le_refl _) _).alloc (by simp) _
 have RX3:w3.heap[w2.heap.size]? =some (.cells L[at'].enc.toArray 85 (0,0)):=by rw[<-hw3,qa2,if_neg (by simp),qa2,if_pos rfl];rfl
 have RZ3:w3.heap[w2.heap.size+1]? =some (.cells qak.enc.toArray 85 (0,0)):=by rw[<-hw3,qa2,if_pos (by simp)];rfl
 have HRX:=hid RX3;have HRZ:=hid RZ3;have HR3:=hid ((b3.block _ (Nat.lt_of_lt_of_le (qa0 HR2.out) (Nat.le_refl _))).trans HR2.out);have HB3:=hid (HB2.out.trans (b3.mono HB2.out.size));clear hw3 RX3 RZ3;have HZ:Hid (w3.heap.size=w3.heap.size):=hid rfl;have lz3:=qa0 HRZ.out;have r0:=cell_of_row w3 _ 0 _ _ _ HRZ.out;have r1:=cell_of_row w3 _ 1 _ _ _ HRZ.out;have r2:=cell_of_row w3 _ 2 _ _ _ HRZ.out;have r3:=cell_of_row w3 _ 3 _ _ _ HRZ.out;have r4:=cell_of_row w3 _ 4 _ _ _ HRZ.out;simp only[qa3.enc,List.getElem?_toArray,List.getElem?_cons_zero,List.getElem?_cons_succ]at r0 r1 r2 r3 r4;have H3:=hid (H.out.keep (HB3.out.block p hp) (λb _ hlt=>HB3.out.block b hlt));have hp3:=qa0 H3.out.box;have p0:=cell_of_row w3 p 0 _ _ _ H3.out.box;have p1:=cell_of_row w3 p 1 _ _ _ H3.out.box;have p2:=cell_of_row w3 p 2 _ _ _ H3.out.box;simp only[List.getElem?_toArray,List.getElem?_cons_zero,List.getElem?_cons_succ]at p0 p1 p2;have hc0:¬c=0:=by have:=H3.out.rows.len;omega
 obtain⟨b,off,rfl,hB,k0,k1,k2,k3,k4⟩:=(H3.out.rows.arr qa3.enc_len).link hat;have hfz:=H3.out.rows.frozen rfl (by omega);have z0:=hfz (off+at'*5);have z1:=hfz (off+at'*5+1);have z2:=hfz (off+at'*5+2);have z3:=hfz (off+at'*5+3);have z4:=hfz (off+at'*5+4);have hpb:¬p=b:=λh0=>H3.out.rows.notBox H3.out.box (by decide) (by rw[qa8,if_neg hc0,h0];rfl)
 have hbp:¬b=p:=λh0=>hpb h0.symm
 have hai:(at':Int)<(L.length:Int):=by omega
 clear hfz b3;go_still_tail 10,(by kernel_rfl);change wpList _ _ _ _ _ (World.drew w3);generalize hw4:World.drew w3=w4;have hh4:w4.heap=w3.heap:=by rw[<-hw4];rfl
 have HB4:Hid (Below w.heap.size w w4):=hid (by rw[<-hw4];exact HB3.out.drew);have hc4:∀a,w4.cell? a=w3.cell? a:=λa=>by rw[<-hw4];rfl
 have hf4:∀a,w4.frozen? a=w3.frozen? a:=λa=>by rw[<-hw4];rfl
 rw[<-hc4]at k0 k1 k2 k3 k4;rw[<-hf4]at z0 z1 z2 z3 z4;rw[<-hh4]at hB lz3 hp3;have H4:=hid (H3.out.keep (w':=w4) (by rw[hh4]) (λb _ _=>by rw[hh4]));have HRX4:Hid (w4.heap[w2.heap.size]? =some (.cells L[at'].enc.toArray 85 (0,0))):=hid (by rw[hh4];exact HRX.out);have HR4:Hid (w4.heap[w.heap.size]? =some (.cells qak.enc.toArray 85 (0,0))):=hid (by rw[hh4];exact HR3.out);have hwb:w.heap.size≠b:=λh0=>by
  rcases H.out.rows.lt with h1|⟨b',off',hA,_,hlt⟩
  · exact hc0 h1
  · cases hA;omega
 have hxb:w2.heap.size≠b:=λh0=>by
  rcases H.out.rows.lt with h1|⟨b',off',hA,_,hlt⟩
  · exact hc0 h1
  · cases hA;have:=HB2.out.size;omega
 have hxp:w2.heap.size≠p:=by have:=HB2.out.size;omega
 clear hw4 hh4 hc4 hf4 p0 p1 p2 r0 r1 r2 r3 r4 HRX HRZ HR3 HB3 H3 HZ;go_upto_region 5 with fail;generalize hw5:World.setCell _ _ _=w5;have e5:w4.setCells b (off+at'*5) qak.enc=w5:=hw5;have HO5:Hid (∀j,j≠b->w5.heap[j]? =w4.heap[j]?):=hid λj hj=>by rw[<-e5];exact qaa b qak.enc (off+at'*5) w4 j hj
 have HW5:Hid (Own qa3.enc 85 5 w5 lo (some ⟨b,off,none⟩) c (L.set at' qak)):=hid (by rw[<-e5];exact Own.setOne qa3.enc_len H4.out.rows hat qak);have hlb:lo<=b:=by
  rcases H4.out.rows.lt with h0|⟨b',off',hA,hB,_⟩
  · exact absurd h0 hc0
  · cases hA;exact hB
 have HB5:Hid (Below lo w w5):=hid (by rw[<-e5];exact qae hlb qak.enc (off+at'*5) w4 (HB4.out.mono hlow));have HX5:=hid ((HO5.out p hpb).trans H4.out.box);have HRX5:=hid ((HO5.out _ hxb).trans HRX4.out);have HR5:=hid ((HO5.out _ hwb).trans HR4.out);have hlo':=H4.out.lo;clear hw5 e5 z0 z1 z2 z3 z4 hB;have p0:=cell_of_row w5 p 0 _ _ _ HX5.out;have p1:=cell_of_row w5 p 1 _ _ _ HX5.out;have p2:=cell_of_row w5 p 2 _ _ _ HX5.out;simp only[List.getElem?_toArray,List.getElem?_cons_zero,List.getElem?_cons_succ]at p0 p1 p2;have fp1:=frozen_of_row w5 p 1 _ _ HX5.out;have hp5:=qa0 HX5.out;have hL2:¬L.length=0:=by omega
 have hL3:¬L=[]:=λh0=>by rw[h0]at hL2;exact hL2 rfl
 have hL0:¬(L.length:Int)=0:=by omega
 have hL1:((L.length:Int)==0)=false:=by rw[beq_eq_false_iff_ne];exact hL0
 have hm:(at'+1)%L.length<L.length:=Nat.mod_lt _ (by omega);have e3:Int.tmod ((at':Int)+1) (L.length:Int)=(((at'+1)%L.length:Nat):Int):=by rw[show(at':Int)+1=((at'+1:Nat):Int)by omega,Int.ofNat_tmod]
 have i2:IntKind.i64.wrap (((at'+1)%L.length:Nat):Int)=(((at'+1)%L.length:Nat):Int):=Go.IntWalk.i64_in _ (by omega);have i1:IntKind.i64.wrap ((at':Int)+1)=(at':Int)+1:=Go.IntWalk.i64_in _ (by omega);obtain⟨k,hk⟩:∃k,k=(at'+1)%L.length:=⟨_,rfl⟩;rw[<-hk]at e3 i2 hm;have HK:=hid hk;clear hk;go_still_tail 14,(by kernel_rfl);change wpList _ _ _ _ _ (World.drew w5);generalize hw6:World.drew w5=w6;have hh6:w6.heap=w5.heap:=by rw[<-hw6];rfl
 have HB6:Hid (Below lo w w6):=hid (by rw[<-hw6];exact HB5.out.drew);have HX6:=hid (show w6.heap[p]? =_ from(congrArg (λh:Array Obj=>h[p]?) hh6).trans HX5.out);have p1':=cell_of_row w6 p 1 _ _ _ HX6.out;have fp1':=frozen_of_row w6 p 1 _ _ HX6.out;have hp6:=qa0 HX6.out;clear p0 p1 p2 fp1 hp5 e3 i2 i1 hL0 hL1 hL2 hL3;go_upto_region 6 with fail;generalize hw7:World.setCell _ _ _=w7;have HX7:=hid (show w7.heap[p]? =some (.cells #[.slice (some ⟨b,off,none⟩) L.length c,.int .i64 (k:Int),.int .i64 (n:Int)] 210 (0,0))by rw[<-hw7];exact heap_setCell_same _ p 1 _ _ _ HX6.out);have HO7:Hid (∀j,j≠p->w7.heap[j]? =w5.heap[j]?):=hid λj hj=>by rw[<-hw7,Below.heap_setCell _ _ _ _ hj,hh6]
 have HB7:Hid (Below lo w w7):=hid (by rw[<-hw7];exact HB6.out.setCell hlo' _);have HRX7:=hid ((HO7.out _ hxp).trans HRX5.out);have HR7:=hid ((HO7.out w.heap.size (by omega)).trans HR5.out);clear hw7 hw6 hh6 p1' fp1' HX6;have p2:=cell_of_row w7 p 2 _ _ _ HX7.out;simp only[List.getElem?_toArray,List.getElem?_cons_zero,List.getElem?_cons_succ]at p2;have fp2:=frozen_of_row w7 p 2 _ _ HX7.out;have hp7:=qa0 HX7.out;have lx7:=qa0 HRX7.out;have lr7:=qa0 HR7.out;have in1:IntKind.i64.wrap ((n:Int)-1)=(n:Int)-1:=Go.IntWalk.i64_in _ (by omega);have r0:=cell_of_row w7 _ 0 _ _ _ HRX7.out;have r1:=cell_of_row w7 _ 1 _ _ _ HRX7.out;have r2:=cell_of_row w7 _ 2 _ _ _ HRX7.out;have r3:=cell_of_row w7 _ 3 _ _ _ HRX7.out;have r4:=cell_of_row w7 _ 4 _ _ _ HRX7.out;simp only[qa3.enc,List.getElem?_toArray,List.getElem?_cons_zero,List.getElem?_cons_succ]at r0 r1 r2 r3 r4;have q0:=cell_of_row w7 _ 0 _ _ _ HR7.out;have q1:=cell_of_row w7 _ 1 _ _ _ HR7.out;have q2:=cell_of_row w7 _ 2 _ _ _ HR7.out;have q3:=cell_of_row w7 _ 3 _ _ _ HR7.out;have q4:=cell_of_row w7 _ 4 _ _ _ HR7.out;simp only[qa3.enc,List.getElem?_toArray,List.getElem?_cons_zero,List.getElem?_cons_succ]at q0 q1 q2 q3 q4;have f0:=frozen_of_row w7 _ 0 _ _ HR7.out;have f1:=frozen_of_row w7 _ 1 _ _ HR7.out;have f2:=frozen_of_row w7 _ 2 _ _ HR7.out;have f3:=frozen_of_row w7 _ 3 _ _ HR7.out;have f4:=frozen_of_row w7 _ 4 _ _ HR7.out;have hrp:w.heap.size≠p:=by omega
 have hpr:¬p=w.heap.size:=by omega
 have hpx:¬p=w2.heap.size:=λh0=>hxp h0.symm
 have HD:Hid ((w7.setCell ⟨p,2,none⟩ (.int .i64 ((n:Int)-1))).heap[p]? =some (.cells #[.slice (some ⟨b,off,none⟩) L.length c,.int .i64 (k:Int),.int .i64 ((n:Int)-1)] 210 (0,0))):=hid (heap_setCell_same _ p 2 _ _ (.int .i64 ((n:Int)-1)) HX7.out);have HRD:=hid ((Below.heap_setCell w7 ⟨p,2,none⟩ (.int .i64 ((n:Int)-1)) w.heap.size hrp).trans HR7.out);have HO8:Hid (∀j,j≠w.heap.size->((w7.setCell ⟨p,2,none⟩ (.int .i64 ((n:Int)-1))).setCells w.heap.size 0 L[at'].enc).heap[j]? =(w7.setCell ⟨p,2,none⟩ (.int .i64 ((n:Int)-1))).heap[j]?):=hid λj hj=>qaa _ _ _ _ j hj
 go_wp2_with fail;refine bodyPost_ret (v:=.tuple #[L[at'].val,.bool true]) (qdq results366 _ _ w.heap.size L[at'] _ (by simp) (by simp) (box5 HRD.out)) rfl ⟨L[at'],_,ql5 hfit hn hat qak,rfl,⟨⟨some ⟨b,off,none⟩,c,⟨L.set at' qak,k,n-1,⟨?_,?_,hlo',?_,?_⟩,?_⟩,.inl ⟨rfl,rfl⟩⟩,?_,λj hj hjp hjr=>?_,λK hK _=>(Ring.of_box HD.out (hK.len H.out.box)).same (HO8.out p hpr)⟩⟩
 · rw[List.length_set,show((n-1:Nat):Int)=(n:Int)-1 by omega]
   exact(HO8.out p hpr).trans HD.out
 · refine HW5.out.keep λb' off' hA _ _=>?_
   cases hA
   exact(HO8.out b (λh0=>hwb h0.symm)).trans ((Below.heap_setCell _ _ _ _ hbp).trans (HO7.out b hbp))
 · rw[List.length_set]
   exact⟨by omega,.inr hm⟩
 · intro h0
   have:=congrArg List.length h0;rw[List.length_set]at this;simp at this;rw[this]at hat;simp at hat
 · rw[HK.out]
 · exact qae hlow L[at'].enc 0 (w7.setCell ⟨p,2,none⟩ (.int .i64 ((n:Int)-1))) (HB7.out.setCell (p:=⟨p,2,none⟩) hlo' _)
 · have hjb:j≠b:=λh0=>hjr (by rw[qa8,if_neg hc0,h0];rfl)
   exact(HO8.out j (by omega)).trans ((Below.heap_setCell _ _ _ _ hjp).trans ((HO7.out j hjp).trans ((HO5.out j hjb).trans (HB4.out.block j hj))))
end Go.Proofs.YtecikkjbnkhhkaaGreat
