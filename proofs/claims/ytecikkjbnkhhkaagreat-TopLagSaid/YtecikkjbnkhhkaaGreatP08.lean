/- A part of the walk. -/
import Derived.Test.YtecikkjbnkhhkaaGreatP04
import Derived.Test.YtecikkjbnkhhkaaGreatP06
import Derived.Test.YtecikkjbnkhhkaaGreatP07
namespace Go.Proofs.YtecikkjbnkhhkaaGreat
open _root_.Go.Proofs.Tryz
set_option maxHeartbeats 2000000
set_option maxRecDepth 100000
section
open Go.RowKit
theorem Arr.num1{w:World}{B:Nat}{A:Option Addr}{l:List Nat}(h:Arr numE 1 w B A l){i:Nat}(hi:i<l.length):∃b off,A=some ⟨b,off,none⟩/\b<B/\w.cell? ⟨b,off+i,none⟩=some (.int .i64 (l[i]:Int)):=by
 rcases h with rfl|⟨b,off,rfl,hB,hc⟩
 · simp at hi
 · exact⟨b,off,rfl,hB,by simpa using hc i hi 0 _ rfl⟩
def qxs(l:List Nat)(x:Int)(w:World)(e:Ending)(w':World):Prop:=w'=w/\∃r:Int,e=.returned (.int .i64 r)/\((r= -1/\∀j (h:j<l.length),¬x=(l[j]:Int))\/∃k,∃h:k<l.length,r=k/\x=(l[k]:Int))
theorem qsv(l:List Nat)(x:Int)(A:Option Addr)(c:Nat)(w:World)(hA:Arr numE 1 w w.heap.size A l)(hc:l.length<=c)(hm:c<=9223372036854775807):Calls prog 152 #[.slice A l.length c,.int .i64 x] w (qxs l x w):=by
 have HA:=hid hA;clear hA;go_enter func152,ntmps152;go_wp2_with fail;go_loopw [5,8] (λ_ v8 wr=>∃k:Nat,k<=l.length/\v8=.int .i64 k/\wr=w/\∀j (h:j<l.length),j<k->¬x=(l[j]:Int)) (λ_ v8 _=>l.length-(intOf v8).toNat)
 case atStart=>exact⟨0,by omega,rfl,rfl,λj _ hj=>absurd hj (by omega)⟩
 case round =>
  obtain⟨k,hk,rfl,rfl,hall⟩:=hrel;have HALL:=hid hall;clear hall;by_cases hlt:k<l.length
  · have hlti:(k:Int)<(l.length:Int):=by omega
    obtain⟨b,off,rfl,hB,c0⟩:=HA.out.num1 hlt;by_cases hx:x=(l[k]:Int)
    · have hxe:(x==(l[k]:Int))=true:=by rw[beq_iff_eq];exact hx
      have HX:=hid hx;clear hx;go_wp2_with fail;go_ret;exact⟨rfl,_,rfl,.inr ⟨k,hlt,rfl,HX.out⟩⟩
    · have hxe:(x==(l[k]:Int))=false:=by rw[beq_eq_false_iff_ne];exact hx
      have HX:=hid hx;clear hx;go_wp2_with fail;exact⟨⟨k+1,by omega,by go_num,trivial,λj hj hjk=>by
       rcases(by omega:j<k\/j=k)with h1|rfl
       · exact HALL.out j hj h1
       · exact HX.out⟩,by simp[intOf];omega⟩
  · obtain rfl:k=l.length:=by omega
    go_wp2_with fail;go_ret;exact⟨rfl,_,rfl,.inl ⟨rfl,λj hj=>HALL.out j hj hj⟩⟩
end
section
open Go.RowKit
def lvlC(c:Nat):Nat:=if c/2147483648%2=0 then 1 else if c/1073741824%2=0 then 2 else if c/536870912%2=0 then 3 else 4
def qgn(s:ByteArray):Nat:=lvlC (sumT s)
theorem qw3(c:Nat):1<=lvlC c/\lvlC c<=4:=by unfold lvlC;constructor <;> (repeat' split) <;> omega
theorem qhk(s:ByteArray):1<=qgn s/\qgn s<=4:=qw3 _
def preB(c k:Nat):Prop:=(1<=k->c/2147483648%2=1)/\(2<=k->c/1073741824%2=1)/\(3<=k->c/536870912%2=1)
theorem qAl{c:Nat}(h:c/2147483648%2=0):lvlC c=1:=by simp[lvlC,h]
theorem qAk{c:Nat}(h:preB c 1)(h1:c/1073741824%2=0):lvlC c=2:=by have:=h.1 (by omega);simp[lvlC,h1,this]
theorem qAj{c:Nat}(h:preB c 2)(h1:c/536870912%2=0):lvlC c=3:=by have:=h.1 (by omega);have:=h.2.1 (by omega);simp[lvlC, *]
theorem qAi{c:Nat}(h:preB c 3):lvlC c=4:=by have:=h.1 (by omega);have:=h.2.1 (by omega);have:=h.2.2 (by omega);simp[lvlC, *]
theorem qo5(c:Nat)(h:c<4294967296):bits .and .u32 (c:Int) 1=((c%2:Nat):Int):=by
 have:=u32_and_nat c 1 h (by omega);rwa [Nat.and_one_is_mod]at this
theorem qiw(s:ByteArray)(hn:s.size<=1000000)(w:World):Calls prog 326 #[.string s] w λe w'=>e=.returned (.int .i64 (qgn s:Nat))/\w=w':=by
 have hlt:=qmu s;rw[qgn];obtain⟨c,hc⟩:∃c,c=sumT s:=⟨_,rfl⟩;rw[<-hc]at hlt ⊢;have b0:=qo5 (c/2147483648) (by omega);have b1:=qo5 (c/1073741824) (by omega);have b2:=qo5 (c/536870912) (by omega);simp only[Int.natCast_ediv,Int.cast_ofNat_Int]at b0 b1 b2;have hcall:∀w,Calls prog 299 #[.string s] w λe w'=>e=.returned (.int .u32 (c:Nat))/\w=w':=λw=>by rw[hc];exact(qjq s w hn).mono (λe w' h=>⟨h.1,h.2.symm⟩)
 clear hc;go_enter func326,ntmps326;go_wp2_with(go_at_call 299;refine(hcall _).mono ?_;rintro e w'⟨rfl,rfl⟩);go_loop [4,8] (λv4 v8=>∃k:Nat,k<=3/\v8=.int .i64 k/\v4=.int .i64 (k+1)/\preB c k) (λ_ v8=>4-(intOf v8).toNat)
 case atStart=>exact⟨0,Nat.zero_le _,rfl,rfl,by simp[preB]⟩
 case round =>
  obtain⟨k,hk,rfl,rfl,hpre⟩:=hrel;rcases(by omega:k=0\/k=1\/k=2\/k=3)with rfl|rfl|rfl|rfl
  · by_cases h0:c/2147483648%2=0
    · have z:((c/2147483648%2:Nat):Int)=0:=by omega
      have zz:=qAl h0;rw[z]at b0;clear b1 b2 z;go_wp2;go_ret;exact⟨rfl,rfl⟩
    · have z:((c/2147483648%2:Nat):Int)=1:=by omega
      rw[z]at b0;clear b1 b2 z;go_wp2_with fail;exact⟨⟨1,by omega,by go_num,by go_num,⟨λ_=>by omega,by omega,by omega⟩⟩,by first|(simp[intOf];done)|(simp[intOf];omega)⟩
  · have p1:=hpre.1 (by omega)
    by_cases h0:c/1073741824%2=0
    · have z:((c/1073741824%2:Nat):Int)=0:=by omega
      have zz:=qAk hpre h0;rw[z]at b1;clear b0 b2 z hpre;go_wp2;go_ret;exact⟨rfl,rfl⟩
    · have z:((c/1073741824%2:Nat):Int)=1:=by omega
      rw[z]at b1;clear b0 b2 z hpre;go_wp2_with fail;exact⟨⟨2,by omega,by go_num,by go_num,⟨λ_=>by omega,λ_=>by omega,by omega⟩⟩,by first|(simp[intOf];done)|(simp[intOf];omega)⟩
  · have p1:=hpre.1 (by omega)
    have p2:=hpre.2.1 (by omega);by_cases h0:c/536870912%2=0
    · have z:((c/536870912%2:Nat):Int)=0:=by omega
      have zz:=qAj hpre h0;rw[z]at b2;clear b0 b1 z hpre;go_wp2;go_ret;exact⟨rfl,rfl⟩
    · have z:((c/536870912%2:Nat):Int)=1:=by omega
      rw[z]at b2;clear b0 b1 z hpre;go_wp2_with fail;exact⟨⟨3,by omega,by go_num,by go_num,⟨λ_=>by omega,λ_=>by omega,λ_=>by omega⟩⟩,by first|(simp[intOf];done)|(simp[intOf];omega)⟩
  · have zz:=qAi hpre
    clear hpre b0 b1 b2;go_wp2;go_ret;exact⟨rfl,rfl⟩
end
section
open Go.RowKit
theorem qgi(w:World)(p:Nat)(x:qa3)(ok:Bool)(hp:p<w.heap.size)(T:∀W,Below w.heap.size w W->Calls prog 311 #[.pointer (some ⟨p,0,none⟩)] W (qed x ok W)):Calls prog 251 #[.pointer (some ⟨p,0,none⟩)] w (qed x ok w):=by
 have HT:=hid T;have HX:=hid (show x.val=.agg #[.string x.key,.int .u64 (x.id:Int),.int .u64 (x.ver:Int),.int .i64 x.line,.int .i64 x.cls]from rfl);clear T;go_enter func251,ntmps251;go_upto_region 1 with fail;generalize hw1:World.alloc w _=w1;have R1:w1.heap[w.heap.size]? =some (.cells qak.enc.toArray 85 (0,0)):=by rw[<-hw1];exact(qa2 _ _ _).trans (if_pos rfl)
 have b1:Below w.heap.size w w1:=by rw[<-hw1];exact(Below.refl _ _).alloc (Nat.le_refl _) _
 have HR1:=hid R1;have HB1:=hid b1;have hl1:=qa0 R1;have hp1:p<w1.heap.size:=Nat.lt_of_lt_of_le hp b1.size;clear hw1 R1 b1;go_wp2_with fail;refine(HT.out w1 HB1.out).mono ?_;rintro e w2⟨rfl,b2⟩;rw[HX.out];have R2:=(b2.block _ hl1).trans HR1.out;have HB2:=hid (HB1.out.trans (b2.mono HB1.out.size));have q0:=cell_of_row w2 _ 0 _ _ _ R2;have q1:=cell_of_row w2 _ 1 _ _ _ R2;have q2:=cell_of_row w2 _ 2 _ _ _ R2;have q3:=cell_of_row w2 _ 3 _ _ _ R2;have q4:=cell_of_row w2 _ 4 _ _ _ R2;have f0:=frozen_of_row w2 _ 0 _ _ R2;have f1:=frozen_of_row w2 _ 1 _ _ R2;have f2:=frozen_of_row w2 _ 2 _ _ R2;have f3:=frozen_of_row w2 _ 3 _ _ R2;have f4:=frozen_of_row w2 _ 4 _ _ R2;have hl2:=qa0 R2;simp only[qa3.enc,List.getElem?_toArray,List.getElem?_cons_zero,List.getElem?_cons_succ]at q0 q1 q2 q3 q4;clear R2 b2;go_wp2_with fail;refine bodyPost_ret (v:=.tuple #[x.val,.bool ok]) (by rw[HX.out];simp[results,results251,go_sem,q0,q1,q2,q3,q4]) rfl ⟨rfl,?_⟩;have h0:w.heap.size<=w.heap.size:=Nat.le_refl _;first
  |exact((((HB2.out.setCell h0 _).setCell h0 _).setCell h0 _).setCell h0 _).setCell h0 _
  |exact(HB2.out.setCell h0 _)
end
section
open Go.RowKit
structure qbb(w:World)(lo p dc:Nat)(D:List qab):Prop where
 box:∃c0 c1 c2 c3 c4:Int,w.heap[p]? =some (.cells #[.slice (some ⟨dc,0,none⟩) D.length D.length,.int .i64 c0,.int .i64 c1,.int .i64 c2,.int .i64 c3,.int .i64 c4] 160 (0,0))
 rows:Own qab.enc 247 193 w lo (some ⟨dc,0,none⟩) D.length D
 lo:lo<=p/\lo<=dc/\p≠dc
 len:1<=D.length/\D.length<=258
theorem qez(w:World)(lo p dc:Nat)(D:List qab)(h:qbb w lo p dc D)(i at' n:Nat)(hi:i<D.length)(hn:at'+n<=64):Calls prog 115 #[.pointer (some ⟨p,0,none⟩),.int .i64 (i:Int),.int .i64 (at':Int),.int .i64 (n:Int)] w λe w'=>e=.returned (.int .i64 0)/\w'=w:=by
 obtain⟨k0,k1,k2,k3,k4,hb⟩:=h.box;have hlen:=h.len;have hp:=qa0 hb;have p0:=cell_of_row w p 0 _ _ _ hb;have g0:¬(i:Int)<0:=by omega
 have g1:¬(D.length:Int)<=(i:Int):=by omega
 have g2:¬(at':Int)<0:=by omega
 have g3:IntKind.i64.wrap ((64:Int)-(n:Int))=64-(n:Int):=Go.IntWalk.i64_in _ (by omega);have g4:¬64-(n:Int)<(at':Int):=by omega
 clear h hb;go_enter func115,ntmps115;go_wp2_with fail;go_ret;exact⟨rfl,rfl⟩
theorem qvc(w:World)(lo p dc:Nat)(D:List qab)(h:qbb w lo p dc D)(i:Int)(hi:i<0\/(D.length:Int)<=i)(at' n:Int):Calls prog 115 #[.pointer (some ⟨p,0,none⟩),.int .i64 i,.int .i64 at',.int .i64 n] w λe w'=>e=.returned (.int .i64 2)/\w'=w:=by
 obtain⟨k0,k1,k2,k3,k4,hb⟩:=h.box;have hlen:=h.len;have hp:=qa0 hb;have p0:=cell_of_row w p 0 _ _ _ hb;clear h hb;by_cases g0:i<0
 · go_enter func115,ntmps115
   go_wp2_with fail;go_ret;exact⟨rfl,rfl⟩
 · have g1:(D.length:Int)<=i:=by omega
   go_enter func115,ntmps115;go_wp2_with fail;go_ret;exact⟨rfl,rfl⟩
theorem qhn(w:World)(lo p dc:Nat)(D:List qab)(h:qbb w lo p dc D):Calls prog 69 #[.pointer (some ⟨p,0,none⟩)] w λe w'=>e=.returned (.int .i64 (D.length:Nat))/\w'=w:=by
 obtain⟨k0,k1,k2,k3,k4,hb⟩:=h.box;have hp:=qa0 hb;have p0:=cell_of_row w p 0 _ _ _ hb;clear h hb;go_enter func69,ntmps69;go_wp2_with fail;go_ret;exact⟨rfl,rfl⟩
theorem qbb.count{w:World}{lo p dc:Nat}{D:List qab}(h:qbb w lo p dc D){q:Nat}(hq:1<=q/\q<=5)(v:Int):qbb (w.setCell ⟨p,q,none⟩ (.int .i64 v)) lo p dc D:=by
 obtain⟨k0,k1,k2,k3,k4,hb⟩:=h.box;have hs:=heap_setCell_same _ p q _ _ (.int .i64 v) hb;refine⟨?_,h.rows.of_heap (Below.heap_setCell _ _ _ _ (Ne.symm h.lo.2.2)),h.lo,h.len⟩;rcases(by omega:q=1\/q=2\/q=3\/q=4\/q=5)with rfl|rfl|rfl|rfl|rfl
 · exact⟨v,k1,k2,k3,k4,hs⟩
 · exact⟨k0,v,k2,k3,k4,hs⟩
 · exact⟨k0,k1,v,k3,k4,hs⟩
 · exact⟨k0,k1,k2,v,k4,hs⟩
 · exact⟨k0,k1,k2,k3,v,hs⟩
theorem qbb.set{w w':World}{lo p dc:Nat}{D D':List qab}(h:qbb w lo p dc D)(hr:Own qab.enc 247 193 w' lo (some ⟨dc,0,none⟩) D.length D')(hl:D'.length=D.length)(hh:w'.heap[p]? =w.heap[p]?):qbb w' lo p dc D':=by
 obtain⟨k0,k1,k2,k3,k4,hb⟩:=h.box;exact⟨⟨k0,k1,k2,k3,k4,by rw[hh,hl];exact hb⟩,by rw[hl];exact hr,h.lo,by rw[hl];exact h.len⟩
theorem qbb.cnt{w:World}{lo p dc:Nat}{D:List qab}(h:qbb w lo p dc D){q:Nat}(hq:1<=q/\q<=5):∃c:Int,w.cell? ⟨p,q,none⟩=some (.int .i64 c)/\w.frozen? ⟨p,q,none⟩=false/\p<w.heap.size:=by
 obtain⟨k0,k1,k2,k3,k4,hb⟩:=h.box;have hp:=qa0 hb;have hf:=frozen_of_row w p q _ _ hb;rcases(by omega:q=1\/q=2\/q=3\/q=4\/q=5)with rfl|rfl|rfl|rfl|rfl
 · exact⟨k0,cell_of_row w p 1 _ _ _ hb,hf,hp⟩
 · exact⟨k1,cell_of_row w p 2 _ _ _ hb,hf,hp⟩
 · exact⟨k2,cell_of_row w p 3 _ _ _ hb,hf,hp⟩
 · exact⟨k3,cell_of_row w p 4 _ _ _ hb,hf,hp⟩
 · exact⟨k4,cell_of_row w p 5 _ _ _ hb,hf,hp⟩
theorem qq8:prog.underlying 245=some (.array (prog.arrayLen 245) (prog.elem 245)):=by kernel_rfl
theorem qoy:prog.arrayLen 245=64:=by kernel_rfl
theorem qsm:(prog.info? (prog.elem 245)).map (·.size)=some 1:=by kernel_rfl
theorem qpy(b o l:Nat)(hl:l<64)(W:World):(Instr.sliceAt 245 (.pointer (some ⟨b,o,none⟩)) (some (.int .i64 (l:Int))) none none).run prog W=.ok (.slice (some ⟨b,o+l,none⟩) (64-l) (64-l)) W:=by
 rw[run_sliceAt_array_l (P:=prog) W 245 ⟨b,o,none⟩ qq8 .i64 (l:Int) (by omega) (by rw[qoy];omega),qoy];have hs:(sizeOf (prog.elem 245)).run prog W=.ok 1 W:=by
  have h:=qsm;cases hq:prog.info? (prog.elem 245)with
  |none=>rw[hq]at h;cases h
  |some i=>rw[hq]at h;simp at h;simp[sizeOf,typeInfo,hq,h]
 rw[hs];simp only[Result.andThen_ok,slicedAt,Int.toNat_natCast];rw[if_neg (by omega),Nat.mul_one,Addr.add_mid]
def qfg(lo p dc:Nat)(D:List qab)(w:World)(e:Ending)(w':World):Prop:=e=.returned (.int .i64 0)/\qbb w' lo p dc D/\Old2 lo p dc w w'
theorem qh7(w:World)(lo p dc:Nat)(D:List qab)(h:qbb w lo p dc D)(i at':Nat)(hi:i<D.length)(m:List UInt8)(A:Option Addr)(c:Nat)(hA:Arr byE 1 w w.heap.size A m)(hm:m≠ [])(hfit:at'+m.length<=64)(_hc:m.length<=c):
 Calls prog 105 #[.pointer (some ⟨p,0,none⟩),.int .i64 (i:Int),.int .i64 (at':Int),.slice A m.length c] w (qfg lo p dc (D.set i (D[i].over at' m)) w):=by
 have H:=hid h;have HA:=hid hA;have HM:=hid hm;have hm0:0<m.length:=List.length_pos_iff.2 hm;have hsl:=qpy dc (i*193) at' (by omega);obtain⟨k0,k1,k2,k3,k4,hb⟩:=h.box;have hlen:=h.len;have hp:=qa0 hb;have p0:=cell_of_row w p 0 _ _ _ hb;have hpart:=h.rows.part qab.enc_len hi (o:=at') (vs:=byC ((D[i].now.drop at').take m.length)) (by rw[qad,List.length_take,List.length_drop,D[i].hn];omega) (λj hj=>by
  rw[qad,List.length_take,List.length_drop,D[i].hn]at hj
  rw[qab.e_now _ (by omega),byC,byC,List.getElem?_map,List.getElem?_map,List.getElem?_take,if_pos (by omega),List.getElem?_drop])
 have hth:w.there dc (i*193+at') m.length:=by
  have:=hpart.2.1;rwa [Nat.zero_add,qad,List.length_take,List.length_drop,D[i].hn,Nat.min_eq_left (by omega)]at this
 have HTH:=hid hth;have hdc:=hpart.2.2;have hii:(i:Int)<(D.length:Int):=by omega
 have T0:=hid (qez w lo p dc D h i at' m.length hi hfit);clear h hA hm hb hpart hth;go_enter func105,ntmps105;go_wp2_with fail;refine T0.out.mono ?_;rintro e w1⟨rfl,rfl⟩;go_upto_region 5 with(refine qgm (m:=m) (A:=A) w1 rfl (.tmp 27) (.tmp 28) rfl (by first|rfl|simp[Act.eval]) (by first|rfl|simp[Act.eval]) HA.out HM.out (by omega) HTH.out ?_);have hR:Own qab.enc 247 193 (w1.setCells dc (i*193+at') (byC m)) lo (some ⟨dc,0,none⟩) D.length (D.set i (D[i].over at' m)):=by
  have:=H.out.rows.setPart qab.enc_len hi (D[i].over at' m) at' (byC m) (by rw[qad];omega) (qab.over_same _ hfit) (qab.over_new _ hfit);rwa [Nat.zero_add]at this
 have hD:=H.out.set hR (by simp) (qb2 _ _ _ _ _ H.out.lo.2.2);have hO:Old2 lo p dc w1 (w1.setCells dc (i*193+at') (byC m)):=(Old2.refl _ _ _ _).setsQ H.out.lo.2.1 _ _;simp only[Act.put,List.setIfInBounds_toArray,List.set_cons_succ,List.set_cons_zero];generalize World.setCells _ _ _ _=w2 at *;have HD:=hid hD;have HO:=hid hO;obtain⟨c9,n0,nf,hp2⟩:=hD.cnt (q:=1) (by omega);clear hD hO hR T0 p0 hsl;go_wp2_with fail;refine(qgx p 1 c9 1 w2 n0 nf hp2).mono ?_;rintro e w3⟨v9,rfl,rfl⟩;go_wp2_with fail;go_ret;exact⟨rfl,HD.out.count (by omega) v9,HO.out.setP HD.out.lo.1 _ _⟩
end
section
open Go.RowKit
structure RdAt(w:World)(lo p rc now:Nat)(H:List Nat):Prop where
 box:w.heap[p]? =some (.cells #[.int .u64 (now:Int),.slice (some ⟨rc,0,none⟩) H.length H.length] 216 (0,0))
 rows:w.heap[rc]? =some (.cells (H.map λn:Nat=>Value.int .u64 (n:Int)).toArray 125 (0,0))
 lo:lo<=p/\lo<=rc/\p≠rc
 len:1<=H.length/\H.length<=4
 now1:1<=now/\now<9223372036854775808
theorem RdAt.cell{w:World}{lo p rc now:Nat}{H:List Nat}(h:RdAt w lo p rc now H){t:Nat}(ht:t<H.length):w.cell? ⟨rc,t,none⟩=some (.int .u64 (H[t]:Int))/\w.frozen? ⟨rc,t,none⟩=false/\rc<w.heap.size:=by
 refine⟨?_,frozen_of_row w rc t _ _ h.rows,qa0 h.rows⟩;rw[cell_of_row w rc t _ _ _ h.rows,List.getElem?_toArray,List.getElem?_map,List.getElem?_eq_getElem ht];rfl
theorem RdAt.set{w:World}{lo p rc now:Nat}{H:List Nat}(h:RdAt w lo p rc now H){t:Nat}(_ht:t<H.length)(v:Nat):RdAt (w.setCell ⟨rc,t,none⟩ (.int .u64 (v:Int))) lo p rc now (H.set t v):=by
 refine⟨by rw[List.length_set];exact(Below.heap_setCell _ _ _ _ h.lo.2.2).trans h.box,?_,h.lo,by rw[List.length_set];exact h.len,h.now1⟩;have:=heap_setCell_same w rc t _ _ (.int .u64 (v:Int)) h.rows;rw[this,List.map_set,List.setIfInBounds_toArray]
theorem qjv(w:World)(lo p rc now:Nat)(H:List Nat)(h:RdAt w lo p rc now H):Calls prog 272 #[.pointer (some ⟨p,0,none⟩)] w λe w'=>e=.returned (.int .u64 (now:Int))/\w'=w:=by
 have hp:=qa0 h.box;have p0:=cell_of_row w p 0 _ _ _ h.box;have T:=hid (qe7 p 0 (now:Int) w p0 hp);clear h p0;go_enter func272,ntmps272;go_wp2_with fail;refine T.out.mono ?_;rintro e w1⟨rfl,rfl⟩;go_wp2_with fail;go_ret;exact⟨rfl,rfl⟩
theorem qfl(w:World)(lo p rc now:Nat)(H:List Nat)(h:RdAt w lo p rc now H)(t:Nat)(ht:t<H.length):Calls prog 332 #[.pointer (some ⟨p,0,none⟩),.int .i64 (t:Int)] w λe w'=>e=.returned (.pointer (some ⟨rc,t,none⟩))/\w'=w:=by
 have hp:=qa0 h.box;have p1:=cell_of_row w p 1 _ _ _ h.box;have hrc:=qa0 h.rows;have hti:(t:Int)<(H.length:Int):=by omega
 have ht0:¬(t:Int)<0:=by omega
 clear h;go_enter func332,ntmps332;go_wp2_with fail;go_ret;exact⟨rfl,rfl⟩
theorem qtf(w:World)(lo p rc now:Nat)(H:List Nat)(h:RdAt w lo p rc now H)(t:Nat)(ht:t<H.length)(h0:H[t]=0):Calls prog 296 #[.pointer (some ⟨p,0,none⟩),.int .i64 (t:Int)] w λe w'=>e=.returned (.tuple #[.int .u64 (now:Int),.int .i64 0])/\w'=w.setCell ⟨rc,t,none⟩ (.int .u64 (now:Int)):=by
 obtain⟨c0,f0,l0⟩:=h.cell ht;rw[h0]at c0;have T1:=hid (qfl w lo p rc now H h t ht);have T2:=hid (qjv w lo p rc now H h);have T3:=hid (qx2 rc t 0 (now:Int) w c0 f0 l0);clear h c0 f0 h0;go_enter func296,ntmps296;go_wp2_with fail;refine T1.out.mono ?_;rintro e w1⟨rfl,rfl⟩;go_wp2_with fail;refine T2.out.mono ?_;rintro e w2⟨rfl,rfl⟩;go_wp2_with fail;refine T3.out.mono ?_;rintro e w3⟨rfl,rfl⟩;go_wp2_with fail;go_ret2;exact⟨rfl,rfl⟩
end
section
open Go.RowKit
def qux{α:Type}(enc:α->List Value)(ty k:Nat)(l:List α)(w:World)(e:Ending)(w':World):Prop:=
 ∃A c,e=.returned (.slice A l.length c)/\Own enc ty k w' w.heap.size A c l/\Below w.heap.size w w'
theorem qa7.enc_one(x:qa7):∀u∈x.enc,u.oneCell'=true:=by
 intro u hu;simp only[qa7.enc,List.mem_cons,List.not_mem_nil,or_false]at hu;rcases hu with rfl|rfl|rfl|rfl|rfl <;> rfl
theorem qlo:(prog.info? 40).map (λi=>(i.zero,i.size,i.bytes))=some (some (.agg #[.int .i64 0,.string ByteArray.empty,.string ByteArray.empty,.string ByteArray.empty,.slice none 0 0]),5,80):=by kernel_rfl
theorem qxb{ops:Array Oper}{rest:List Oper}{o:Oper}{a:Act}{Q:Exit->Act->World->Prop}(w:World)(hgd:o.guard=none)(s x:Operand)
 (ho:o.op=.call {callee:=.builtin .append,args:=#[s,x],argTypes:=#[38,38]}) {lo:Nat} {A:Option Addr} {c:Nat} {l:List qa7} (hs:a.eval s=.slice A l.length c) (own:Own qa7.enc 40 5 w lo A c l)
 {B:Nat} {A2:Option Addr} {m:List qa7} (c2:Nat) (hx:a.eval x=.slice A2 m.length c2) (arr:Arr qa7.enc 5 w B A2 m) (hb:l.length+m.length<=1000000) (hlo:lo<=w.heap.size)
 (h:∀A' c' w',Own qa7.enc 40 5 w' lo A' c' (l++m)->w.grownBy w' (qa8 A c)->(A'=A/\c'=c\/∃g,A'=some ⟨g,0,none⟩/\w.heap.size<=g)->wpList prog ops Q rest (a.put o.dst (.slice A' (l.length+m.length) c')) w'):
 wpList prog ops Q (o::rest) a w:=by
 obtain⟨i0,hi,hz0,hz1,hz2⟩:=info_parts qlo;exact qar w hgd s x 38 ho i0 _ 80 underlying38 hi hz0 hz1 hz2 rfl (by decide) qa7.enc_len qa7.enc_one hs own c2 hx arr (by unfold maxLen;omega) (by omega) hlo h
theorem qhx(l:List qa7)(A:Option Addr)(c:Nat)(w:World)(hA:Arr qa7.enc 5 w w.heap.size A l)(hc:l.length<=c)(_hm:c<=9223372036854775807)(hb:l.length<=1000000):
 Calls prog 65 #[.slice A l.length c] w (qux qa7.enc 40 5 l w):=by
 have HB:=hid hb;clear hb;have hnil:=λW:World=>Lib.run_eql_slice_nil (P:=prog) W 38 40 A l.length c 0 0 underlying38
 cases A with
 |none =>
  go_enter func65,ntmps65;go_wp2;go_ret;have hl:l=[]:=by
   rcases hA with h|⟨b,off,h,_⟩
   · exact h
   · cases h
  subst hl;exact⟨none,0,rfl,Own.none_,Below.refl _ _⟩
 |some a =>
  go_enter func65,ntmps65;go_wp2_with(at_builtin;refine qxb (l:=[]) (m:=l) _ rfl (.tmp 5) (.tmp 6) rfl rfl (Own.zero (lo:=w.heap.size)) c rfl (hA.below ((Below.refl _ w).alloc (Nat.le_refl _) _)) (by simpa using HB.out) (by simp) ?_;intro A' c' w' hown hgr hloc);go_ret;refine⟨A',c',by simp,by simpa using hown,((Below.refl _ w).alloc (Nat.le_refl _) _).grown hgr (by simp) (λk hk=>?_)⟩;simp[qa8]at hk
structure CSim(x y:qa7):Prop where
 kind:x.kind=y.kind
 key:x.key=y.key
 val:x.val=y.val
 to':x.tx=y.tx
 gn:x.gn=y.gn
theorem CSim.refl(x:qa7):CSim x x:=⟨rfl,rfl,rfl,rfl,rfl⟩
end
section
open Go.RowKit
def Sl{α:Type}(enc:α->List Value)(k:Nat)(w:World)(B:Nat)(A:Option Addr)(n c:Nat)(l:List α):Prop:=Arr enc k w B A l/\n=l.length/\l.length<=c/\c<=9223372036854775807
section
variable {α:Type}{enc:α->List Value}{k:Nat}{w w':World}{B:Nat}{A:Option Addr}{n c:Nat}{l:List α}
theorem Sl.nil:Sl enc k w B A 0 0 []:=⟨Arr.nil,rfl,Nat.le_refl _,by simp⟩
theorem Sl.below(h:Sl enc k w B A n c l)(hb:Below B w w'):Sl enc k w' B A n c l:=⟨h.1.below hb,h.2⟩
theorem Sl.more{B':Nat}(h:Sl enc k w B A n c l)(hB:B<=B'):Sl enc k w B' A n c l:=⟨h.1.more hB,h.2⟩
theorem Sl.of_own{e:TypeId}{lo:Nat}(hk:∀x,(enc x).length=k)(h:Own enc e k w lo A c l):Sl enc k w w.heap.size A l.length c l:=⟨h.arr hk,rfl,h.len,h.max⟩
end
structure qas where
 had:Bool
 old:qa3
 line:Int
 cls:Int
def qas.enc(x:qas):List Value:=[.bool x.had,.string x.old.key,.int .u64 (x.old.id:Int),.int .u64 (x.old.ver:Int),.int .i64 x.old.line,.int .i64 x.old.cls,.int .i64 x.line,.int .i64 x.cls]
theorem qas.enc_len(x:qas):x.enc.length=8:=rfl
theorem qas.enc_one(x:qas):∀u∈x.enc,u.oneCell'=true:=by
 intro u hu;simp only[qas.enc,List.mem_cons,List.not_mem_nil,or_false]at hu;rcases hu with rfl|rfl|rfl|rfl|rfl|rfl|rfl|rfl <;> rfl
def qAa:qas:=⟨false,qak,0,0⟩
def bitE(x:Bool):List Value:=[.bool x]
theorem qfd(x:Bool):(bitE x).length=1:=rfl
theorem qx7(x:Bool):∀u∈bitE x,u.oneCell'=true:=by intro u hu;simp[bitE]at hu;subst hu;rfl
structure qa5 where
 call:qa7
 phase:Int
 ep:Nat
 pos:ByteArray
 past:Bool
 level:Int
 had:Bool
 old:qa3
 line:Int
 cls:Int
 piece:Int
 bA:Option Addr
 bn:Nat
 bc:Nat
 at':Int
 pA:Option Addr
 pn:Nat
 pc:Nat
 code:Int
 found:Bool
 vl:ByteArray
 hA:Option Addr
 hn:Nat
 hc:Nat
 aep:Nat
def qa5.enc(f:qa5):List Value:=
 [.int .i64 f.call.kind,.string f.call.key,.string f.call.val,.string f.call.tx,.slice f.call.gA f.call.gn f.call.gc,.int .i64 f.phase,.int .u64 (f.ep:Int),.string f.pos,.bool f.past,.int .i64 f.level,.bool f.had,
  .string f.old.key,.int .u64 (f.old.id:Int),.int .u64 (f.old.ver:Int),.int .i64 f.old.line,.int .i64 f.old.cls,.int .i64 f.line,.int .i64 f.cls,.int .i64 f.piece,.slice f.bA f.bn f.bc,.int .i64 f.at',.slice f.pA f.pn f.pc,
  .int .i64 f.code,.bool f.found,.string f.vl,.slice none 0 0,.slice f.hA f.hn f.hc,.int .u64 (f.aep:Int)]
theorem qa5.enc_len(f:qa5):f.enc.length=28:=rfl
theorem qa5.enc_one(f:qa5):∀v∈f.enc,v.oneCell'=true:=by
 intro v hv;simp only[qa5.enc,List.mem_cons,List.not_mem_nil,or_false]at hv;rcases hv with rfl|rfl|rfl|rfl|rfl|rfl|rfl|rfl|rfl|rfl|rfl|rfl|rfl|rfl|rfl|rfl|rfl|rfl|rfl|rfl|rfl|rfl|rfl|rfl|rfl|rfl|rfl|rfl <;> rfl
def qa5.v(f:qa5):Value:=.agg f.enc.toArray
structure qbt(w:World)(B:Nat)(f:qa5)(g:List qa7)(bs:List UInt8)(ps:List qas)(hs:List Bool):Prop where
 grp:Sl qa7.enc 5 w B f.call.gA f.call.gn f.call.gc g
 bytes:Sl byE 1 w B f.bA f.bn f.bc bs
 parts:Sl qas.enc 8 w B f.pA f.pn f.pc ps
 hits:Sl bitE 1 w B f.hA f.hn f.hc hs
theorem qbt.below{w w':World}{B:Nat}{f:qa5}{g:List qa7}{bs:List UInt8}{ps:List qas}{hs:List Bool}(h:qbt w B f g bs ps hs)(hb:Below B w w'):qbt w' B f g bs ps hs:=⟨h.1.below hb,h.2.below hb,h.3.below hb,h.4.below hb⟩
theorem qbt.more{w:World}{B B':Nat}{f:qa5}{g:List qa7}{bs:List UInt8}{ps:List qas}{hs:List Bool}(h:qbt w B f g bs ps hs)(hB:B<=B'):qbt w B' f g bs ps hs:=⟨h.1.more hB,h.2.more hB,h.3.more hB,h.4.more hB⟩
end
end Go.Proofs.YtecikkjbnkhhkaaGreat
