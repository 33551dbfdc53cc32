/- A part of the walk. -/
import Derived.Test.YtecikkjbnkhhkaaGreatP20
import Derived.Test.YtecikkjbnkhhkaaGreatP17
import Derived.Test.YtecikkjbnkhhkaaGreatP21
namespace Go.Proofs.YtecikkjbnkhhkaaGreat
open _root_.Go.Proofs.Tryz
set_option maxHeartbeats 4000000
set_option maxRecDepth 100000
section
open Go.RowKit
def ansL(code:Int)(found:Bool)(vl:ByteArray)(A:Option Addr)(n c ep:Nat):List Value:=[.int .i64 code,.bool found,.string vl,.slice none 0 0,.slice A n c,.int .u64 (ep:Int)]
def ansV(code:Int)(found:Bool)(vl:ByteArray)(A:Option Addr)(n c ep:Nat):Value:=.agg (ansL code found vl A n c ep).toArray
theorem qko:(prog.info? 66).map (·.size)=some 6:=by kernel_rfl
def qxw(code:Int)(found:Bool)(vl:ByteArray)(hs:List Bool)(ep:Nat)(w:World)(e:Ending)(w':World):Prop:=∃A' c',e=.returned (ansV code found vl A' hs.length c' ep)/\Own bitE 4 1 w' w.heap.size A' c' hs/\Below w.heap.size w w'
theorem qnv(code:Int)(found:Bool)(vl:ByteArray)(hs:List Bool)(A:Option Addr)(c ep:Nat)(w:World)(hA:Arr bitE 1 w w.heap.size A hs)(hb:hs.length<=100000):
 Calls prog 47 #[ansV code found vl A hs.length c ep] w (qxw code found vl hs ep w):=by
 have HA:=hid hA;have HB:=hid hb;have HV:=hid (show ansV code found vl A hs.length c ep=.agg #[.int .i64 code,.bool found,.string vl,.slice none 0 0,.slice A hs.length c,.int .u64 (ep:Int)]from rfl);rw[HV.out];clear hA hb HV;go_enter func47,ntmps47;go_upto_region 1 with fail;generalize hw1:World.alloc _ _=w1;have R0:w1.heap[w.heap.size]? =some (.cells (ansL code found vl A hs.length c ep).toArray 66 (0,0)):=by rw[<-hw1];exact(Below.heap_alloc _ _ _ (by simp)).trans ((qa2 _ _ _).trans (if_pos rfl))
 have R1:w1.heap[w.heap.size+1]? =some (.cells (ansL 0 false ByteArray.empty none 0 0 0).toArray 66 (0,0)):=by rw[<-hw1];exact(qa2 _ _ _).trans (if_pos (by simp))
 have b1:Below w.heap.size w w1:=by rw[<-hw1];exact((Below.refl _ _).alloc (Nat.le_refl _) _).alloc (by simp) _
 have q3:w1.cell? ⟨w.heap.size,3,none⟩=some (.slice none 0 0):=cell_of_row w1 _ 3 _ _ _ R0;have f3:=frozen_of_row w1 _ 3 _ _ R0;have hl1:=qa0 R1;have hl0:=qa0 R0;have HR0:=hid R0;have HR1:=hid R1;have HB1:=hid b1;clear hw1 R0 R1 b1;go_wp2_with fail;refine(qqt w1).mono ?_;rintro e w2⟨rfl,rfl⟩;go_upto_region 2 with fail;obtain⟨w3,hw3⟩:∃w3,w3=w2.setCell ⟨w.heap.size,3,none⟩ (.slice none 0 0):=⟨_,rfl⟩;rw[<-hw3];have R0:w3.heap[w.heap.size]? =some (.cells (ansL code found vl A hs.length c ep).toArray 66 (0,0)):=by rw[hw3];exact heap_setCell_same w2 _ 3 _ _ (.slice none 0 0) HR0.out
 have R1:=(show w3.heap[w.heap.size+1]? =w2.heap[w.heap.size+1]? by rw[hw3];exact Below.heap_setCell _ _ _ _ (by simp)).trans HR1.out;have b3:Below w.heap.size w w3:=by rw[hw3];exact HB1.out.setCell (Nat.le_refl _) _
 have q4:w3.cell? ⟨w.heap.size,4,none⟩=some (.slice A hs.length c):=cell_of_row w3 _ 4 _ _ _ R0;have hl1:=qa0 R1;have hl0:=qa0 R0;have HR0:=hid R0;have HR1:=hid R1;have HB3:=hid b3;clear hw3 R0 R1 b3 q3 f3;go_wp2_with fail;refine(qtk hs A c w3 ((HA.out.below HB3.out).more HB3.out.size) HB.out).mono ?_;rintro e w4⟨A',c',rfl,hown,hb4⟩;have R0:=qac hb4 hl0 HR0.out;have R1:=qac hb4 hl1 HR1.out;have q4:w4.cell? ⟨w.heap.size,4,none⟩=some (.slice A hs.length c):=cell_of_row w4 _ 4 _ _ _ R0;have f4:=frozen_of_row w4 _ 4 _ _ R0;have hl0:=qa0 R0;have HR0:=hid R0;have HR1:=hid R1;have HO:=hid (hown.lower (show w.heap.size+2<=w3.heap.size by omega));have HB4:=hid (HB3.out.trans (hb4.mono HB3.out.size));clear hown hb4 R0 R1;go_upto_region 3 with fail;obtain⟨w5,hw5⟩:∃w5,w5=w4.setCell ⟨w.heap.size,4,none⟩ (.slice A' hs.length c'):=⟨_,rfl⟩;rw[<-hw5];have R0:w5.heap[w.heap.size]? =some (.cells (ansL code found vl A' hs.length c' ep).toArray 66 (0,0)):=by rw[hw5];exact heap_setCell_same w4 _ 4 _ _ (.slice A' hs.length c') HR0.out
 have R1:=(show w5.heap[w.heap.size+1]? =w4.heap[w.heap.size+1]? by rw[hw5];exact Below.heap_setCell _ _ _ _ (by simp)).trans HR1.out;have HO5:Hid (Own bitE 4 1 w5 (w.heap.size+2) A' c' hs):=hid (by rw[hw5];exact HO.out.setCell (by show w.heap.size<w.heap.size+2;omega) _);have b5:Below w.heap.size w w5:=by rw[hw5];exact HB4.out.setCell (Nat.le_refl _) _
 have HRA:=hid (qb5 R0);have TH:=hid (qai (n:=6) R1 rfl);have HAL:=hid (show(ansL code found vl A' hs.length c' ep).toArray.all (·.oneCell')=true by simp[ansL,Value.oneCell']);obtain⟨w6,hw6⟩:∃w6,w6=w5.setCells (w.heap.size+1) 0 (ansL code found vl A' hs.length c' ep).toArray.toList:=⟨_,rfl⟩;have RG:w6.rangeAt (w.heap.size+1) 0 (ansL code found vl A' hs.length c' ep):=by rw[hw6];exact World.rangeAt_setCells_same w5 (w.heap.size+1) 0 _ TH.out
 have HO6:=hid (show Own bitE 4 1 w6 (w.heap.size+2) A' c' hs by rw[hw6];exact HO5.out.keep λb' _ _ hlo _=>qaa _ _ _ _ _ (by omega));have HB6:=hid (show Below w.heap.size w w6 by rw[hw6];exact qae (by omega) _ _ _ b5);have HRG:=hid RG;have HW6:=hid hw6;clear hw5 R0 R1 HO5 b5 hw6 RG HO HB4 q4 f4;go_wp2_with(first|(refine wpList_load_mid rfl 66 (.tmp 1) rfl w.heap.size 0 (by first|rfl|simp[Act.eval]) (ansL code found vl A' hs.length c' ep) _ HRA.out underlying66 rfl qko ?_)|(refine wpList_store_mid rfl 66 (.tmp 2) (.tmp 11) rfl (w.heap.size+1) 0 (ansL code found vl A' hs.length c' ep).toArray (by first|rfl|simp[Act.eval]) (by first|rfl|simp[Act.eval]) TH.out qko HAL.out ?_;rw[<-HW6.out]));refine bodyPost_ret (v:=ansV code found vl A' hs.length c' ep) ?_ rfl ⟨A',c',rfl,HO6.out.lower (by omega),HB6.out⟩;exact qah results47 _ _ (w.heap.size+1) _ _ rfl HRG.out underlying66 rfl qko
end
section
open Go.RowKit
theorem qay{w:World}{p:Nat}{ty:TypeId}{cs:List Value}(h:w.heap[p]? =some (.cells cs.toArray ty (0,0)))(k:Nat)(v:Value):(w.setCell ⟨p,k,none⟩ v).heap[p]? =some (.cells (cs.set k v).toArray ty (0,0)):=by
 rw[<-List.setIfInBounds_toArray];exact heap_setCell_same w p k _ _ v h
def Flat(g:List qa7):Prop:=∀x∈g,x.gn=0/\x.gc<=9223372036854775807
theorem Flat.sims{g m:List qa7}(h:Flat g)(hs:Sims m g):Flat m:=λx hx=>by
 obtain⟨i,hi,rfl⟩:=List.getElem_of_mem hx
 obtain⟨h1,h2⟩:=hs.2 i hi (by rw[<-hs.1];exact hi)
 exact⟨h1.gn.trans (h _ (List.getElem_mem _)).1,h2⟩
theorem Flat.deep{g:List qa7}(h:Flat g)(w:World)(B:Nat):∀x∈g,Deep w B 1 x:=λx hx=>⟨[],⟨Arr.nil,(h x hx).1,Nat.zero_le _,(h x hx).2⟩,Nat.zero_le _,λy hy=>by cases hy⟩
theorem Sl.keepQ{α:Type}{enc:α->List Value}{k:Nat}{w w':World}{lo q:Nat}{A:Option Addr}{n c:Nat}{l:List α}(h:Sl enc k w lo A n c l)(hm:l=[]\/∃x off,A=some ⟨x,off,none⟩/\q<=x)(hk:∀j,q<=j->w'.heap[j]? =w.heap[j]?):Sl enc k w' lo A n c l:=by
 obtain⟨h1,h2,h3,h4⟩:=h;refine⟨?_,h2,h3,h4⟩;rcases h1 with h0|⟨x,off,hA,hlt,hc⟩
 · subst h0;exact Arr.nil
 · rcases hm with h0|⟨x',off',hA',hx⟩
   · subst h0;exact Arr.nil
   · rw[hA]at hA'
     cases hA'
     exact .inr ⟨x,off,hA,hlt,λi hi j u hu=>(World.cell?_of_block (w:=w) (hk x hx)).trans (hc i hi j u hu)⟩
def qa5.as(f:qa5)(y:qa7)(d:FrD)(bA:Option Addr)(bc:Nat)(pA:Option Addr)(pc:Nat)(hA:Option Addr)(hc:Nat):qa5:=
 {f with call:=y,bA:=bA,bn:=d.bs.length,bc:=bc,pA:=pA,pn:=d.ps.length,pc:=pc,hA:=hA,hn:=d.hs.length,hc:=hc}
structure qyg(f:qa5)(d:FrD)(lo:Nat)(w':World)(y:qa7)(M:List qa7)(bA:Option Addr)(bc:Nat)(pA:Option Addr)(pc:Nat)(hA:Option Addr)(hc:Nat):Prop where
 sim:CSim y f.call
 sims:Sims M d.gr
 grp:Sl qa7.enc 5 w' lo y.gA y.gn y.gc M
 byt:Own byE 5 1 w' lo bA bc d.bs
 prt:Own qas.enc 330 8 w' lo pA pc d.ps
 hit:Own bitE 4 1 w' lo hA hc d.hs
def qre(f:qa5)(d:FrD)(w:World)(e:Ending)(w':World):Prop:=∃y M bA bc pA pc hA hc lo,e=.returned (f.as y d bA bc pA pc hA hc).v/\w.heap.size<=lo/\lo<=w'.heap.size/\qyg f d lo w' y M bA bc pA pc hA hc/\Below w.heap.size w w'/\(M=[]\/∃x off,y.gA=some ⟨x,off,none⟩/\w.heap.size<=x)
structure quy(d:FrD):Prop where
 gr:d.gr.length<=100000/\Flat d.gr
 bs:d.bs.length<=100000
 ps:d.ps.length<=100000
 hs:d.hs.length<=100000
theorem qg6(f:qa5)(d:FrD)(w:World)(h:qbt w w.heap.size f d.gr d.bs d.ps d.hs)(hfit:quy d):Calls prog 139 #[f.v] w (qre f d w):=by
 have H:=hid h;have HF:=hid hfit;have hV:f.v=.agg #[.int .i64 f.call.kind,.string f.call.key,.string f.call.val,.string f.call.tx,.slice f.call.gA f.call.gn f.call.gc,.int .i64 f.phase,.int .u64 (f.ep:Int),.string f.pos,.bool f.past,.int .i64 f.level,.bool f.had,
  .string f.old.key,.int .u64 (f.old.id:Int),.int .u64 (f.old.ver:Int),.int .i64 f.old.line,.int .i64 f.old.cls,.int .i64 f.line,.int .i64 f.cls,.int .i64 f.piece,.slice f.bA f.bn f.bc,.int .i64 f.at',.slice f.pA f.pn f.pc,
  .int .i64 f.code,.bool f.found,.string f.vl,.slice none 0 0,.slice f.hA f.hn f.hc,.int .u64 (f.aep:Int)]:=rfl
 rw[hV];clear h hfit hV;go_enter func139,ntmps139;go_upto_region 1 with fail;generalize hw1:World.alloc _ _=w1;have R0:w1.heap[w.heap.size]? =some (.cells f.enc.toArray 89 (0,0)):=by rw[<-hw1];exact(Below.heap_alloc _ _ _ (by simp)).trans ((qa2 _ _ _).trans (if_pos rfl))
 obtain⟨cur,R1,hcur⟩:∃cur,w1.heap[w.heap.size+1]? =some (.cells cur 89 (0,0))/\cur.size=28:=⟨_,by rw[<-hw1];exact(qa2 _ _ _).trans (if_pos (by simp)),rfl⟩;have b1:Below w.heap.size w w1:=by rw[<-hw1];exact((Below.refl _ _).alloc (Nat.le_refl _) _).alloc (by simp) _
 have c0:w1.cell? ⟨w.heap.size,0,none⟩=some (.int .i64 f.call.kind):=cell_of_row w1 _ 0 _ _ _ R0;have c1:w1.cell? ⟨w.heap.size,1,none⟩=some (.string f.call.key):=cell_of_row w1 _ 1 _ _ _ R0;have c2:w1.cell? ⟨w.heap.size,2,none⟩=some (.string f.call.val):=cell_of_row w1 _ 2 _ _ _ R0;have c3:w1.cell? ⟨w.heap.size,3,none⟩=some (.string f.call.tx):=cell_of_row w1 _ 3 _ _ _ R0;have c4:w1.cell? ⟨w.heap.size,4,none⟩=some (.slice f.call.gA f.call.gn f.call.gc):=cell_of_row w1 _ 4 _ _ _ R0;have hl0:=qa0 R0;have hl1:=qa0 R1;have HR0:=hid R0;have HR1:=hid R1;have HB1:=hid b1;have HC:=hid hcur;have H1:=hid ((H.out.below b1).more b1.size);clear hw1 R0 R1 b1 hcur;go_wp2_with fail;refine(qer 1 f.call d.gr w1 ⟨H1.out.grp.1,H1.out.grp.2.1,H1.out.grp.2.2.1,H1.out.grp.2.2.2⟩ (by have:=HF.out.gr.1;omega) (HF.out.gr.2.deep w1 w1.heap.size)).mono ?_;rintro e w2⟨y,M,rfl,hsy,hsl,hsm,hb2,hml⟩;have R0:=qac hb2 hl0 HR0.out;have R1:=qac hb2 hl1 HR1.out;have HSY:=hid hsy;have HSM:=hid hsm;have HSL:=hid hsl;have HB2:=hid (HB1.out.trans (hb2.mono HB1.out.size));have HML:Hid (M=[]\/∃x off,y.gA=some ⟨x,off,none⟩/\w.heap.size+2<=x):=hid (by
  rcases hml with h0|⟨x,off,h1,h2⟩
  · exact .inl h0
  · exact .inr ⟨x,off,h1,by omega⟩)
 have HYV:=hid (show qbz y=.agg #[.int .i64 y.kind,.string y.key,.string y.val,.string y.tx,.slice y.gA y.gn y.gc]from rfl);rw[HYV.out];have c0:w2.cell? ⟨w.heap.size,0,none⟩=some (.int .i64 f.call.kind):=cell_of_row w2 _ 0 _ _ _ R0;have c1:w2.cell? ⟨w.heap.size,1,none⟩=some (.string f.call.key):=cell_of_row w2 _ 1 _ _ _ R0;have c2:w2.cell? ⟨w.heap.size,2,none⟩=some (.string f.call.val):=cell_of_row w2 _ 2 _ _ _ R0;have c3:w2.cell? ⟨w.heap.size,3,none⟩=some (.string f.call.tx):=cell_of_row w2 _ 3 _ _ _ R0;have c4:w2.cell? ⟨w.heap.size,4,none⟩=some (.slice f.call.gA f.call.gn f.call.gc):=cell_of_row w2 _ 4 _ _ _ R0;have f0:=frozen_of_row w2 _ 0 _ _ R0;have f1:=frozen_of_row w2 _ 1 _ _ R0;have f2:=frozen_of_row w2 _ 2 _ _ R0;have f3:=frozen_of_row w2 _ 3 _ _ R0;have f4:=frozen_of_row w2 _ 4 _ _ R0;have hl0:=qa0 R0;have HR0:=hid R0;have HR1:=hid R1;clear hsy hsm hsl hb2 R0 R1 hml;go_upto_region 2 with fail;obtain⟨w3,hw3⟩:∃w3,w3=((((w2.setCell ⟨w.heap.size,0,none⟩ (.int .i64 y.kind)).setCell ⟨w.heap.size,1,none⟩ (.string y.key)).setCell ⟨w.heap.size,2,none⟩ (.string y.val)).setCell ⟨w.heap.size,3,none⟩ (.string y.tx)).setCell ⟨w.heap.size,4,none⟩ (.slice y.gA y.gn y.gc):=⟨_,rfl⟩;rw[<-hw3];have R0:w3.heap[w.heap.size]? =some (.cells ({f with call:=y}:qa5).enc.toArray 89 (0,0)):=by
  rw[hw3];exact qay (qay (qay (qay (qay HR0.out 0 (.int .i64 y.kind)) 1 (.string y.key)) 2 (.string y.val)) 3 (.string y.tx)) 4 (.slice y.gA y.gn y.gc)
 have hk3:∀j,j≠w.heap.size->w3.heap[j]? =w2.heap[j]? :=λj hj=>by rw[hw3];exact qco hj 0 _ _ _ _ _
 have R1:=(hk3 (w.heap.size+1) (by omega)).trans HR1.out;have b3:Below w.heap.size w w3:=by rw[hw3];exact qba HB2.out (Nat.le_refl _) 0 _ _ _ _ _
 have HSL3:Hid (Sl qa7.enc 5 w3 w3.heap.size y.gA y.gn y.gc M):=hid (by
  obtain⟨h1,h2,h3,h4⟩:=HSL.out
  refine⟨?_,h2,h3,h4⟩
  have hs:w3.heap.size=w2.heap.size:=by rw[hw3];simp
  rcases HML.out with h0|⟨x,off,hA,hx⟩
  · subst h0;exact Arr.nil
  · rcases h1 with h0|⟨x',off',hA',hlt,hc⟩
    · subst h0;exact Arr.nil
    · rw[hA]at hA'
      cases hA'
      exact .inr ⟨x,off,hA,by omega,λi hi j u hu=>(World.cell?_of_block (w:=w2) (hk3 x (by omega))).trans (hc i hi j u hu)⟩)
 have hl0:=qa0 R0;have hl1:=qa0 R1;have HR0:=hid R0;have HR1:=hid R1;have HB3:=hid b3;have c19:w3.cell? ⟨w.heap.size,19,none⟩=some (.slice f.bA d.bs.length f.bc):=(cell_of_row w3 _ 19 _ _ _ R0).trans (by rw[<-H.out.bytes.2.1];rfl);have HML2:=HML;have HMLZ:Hid (M=[]\/∃x off,y.gA=some ⟨x,off,none⟩/\w.heap.size<=x):=hid (by
  rcases HML.out with h0|⟨x,off,h1,h2⟩
  · exact .inl h0
  · exact .inr ⟨x,off,h1,by omega⟩)
 clear hw3 hk3 HSL HML R0 R1 b3 c0 c1 c2 c3 c4 f0 f1 f2 f3 f4 HYV HB2;go_wp2_with fail;refine(qhy d.bs f.bA f.bc w3 ((H.out.bytes.1.below HB3.out).more HB3.out.size) (by have:=HF.out.bs;omega)).mono ?_;rintro e w4⟨bA,bc,rfl,hown,hb4⟩;have R0:=qac hb4 hl0 HR0.out;have R1:=qac hb4 hl1 HR1.out;have c19:w4.cell? ⟨w.heap.size,19,none⟩=some (.slice f.bA f.bn f.bc):=cell_of_row w4 _ 19 _ _ _ R0;have f19:=frozen_of_row w4 _ 19 _ _ R0;have hl0:=qa0 R0;have HOB:=hid hown;have HSL4:=hid (HSL3.out.below hb4);have HB4:=hid (HB3.out.trans (hb4.mono HB3.out.size));have HR0:=hid R0;have HR1:=hid R1;have hz4:=hb4.size;have HLO:=hid (show w.heap.size+2<=w3.heap.size by omega);clear hown hb4 R0 R1 HSL3 HB3;go_upto_region 3 with fail;obtain⟨w5,hw5⟩:∃w5,w5=w4.setCell ⟨w.heap.size,19,none⟩ (.slice bA d.bs.length bc):=⟨_,rfl⟩;rw[<-hw5];have R0:w5.heap[w.heap.size]? =some (.cells ({f with call:=y,bA:=bA,bn:=d.bs.length,bc:=bc}:qa5).enc.toArray 89 (0,0)):=by rw[hw5];exact qay HR0.out 19 _
 have R1:=(show w5.heap[w.heap.size+1]? =w4.heap[w.heap.size+1]? by rw[hw5];exact Below.heap_setCell _ _ _ _ (by simp)).trans HR1.out;have b5:Below w.heap.size w w5:=by rw[hw5];exact HB4.out.setCell (Nat.le_refl _) _
 have hk5:∀j,j≠w.heap.size->w5.heap[j]? =w4.heap[j]? :=λj hj=>by rw[hw5];exact Below.heap_setCell _ _ _ _ hj
 have hs5:w5.heap.size=w4.heap.size:=by rw[hw5,World.size_setCell]
 have HLOW:=hid (show w.heap.size+2<=w3.heap.size from HLO.out);obtain⟨lo,hlo⟩:∃lo,lo=w3.heap.size:=⟨_,rfl⟩;rw[<-hlo]at HOB HLOW hz4;have HSL5:=hid ((show Sl qa7.enc 5 w4 lo y.gA y.gn y.gc M by rw[hlo];exact HSL4.out).keepQ HML2.out (w':=w5) λj hj=>hk5 j (by omega));have HOB5:=hid (HOB.out.keep (w':=w5) λx off _ hx _=>hk5 x (by have:=HLOW.out;omega));have hl0:=qa0 R0;have hl1:=qa0 R1;have HR0:=hid R0;have HR1:=hid R1;have HB5:=hid b5;have HZ5:=hid (show lo<=w5.heap.size by omega);have c21:w5.cell? ⟨w.heap.size,21,none⟩=some (.slice f.pA d.ps.length f.pc):=(cell_of_row w5 _ 21 _ _ _ R0).trans (by rw[<-H.out.parts.2.1];rfl);clear hw5 hk5 hs5 HSL4 R0 R1 b5 HLO HOB HB4 hz4 c19 f19;go_wp2_with fail;refine(qqs d.ps f.pA f.pc w5 ((H.out.parts.1.below HB5.out).more HB5.out.size) HF.out.ps).mono ?_;rintro e w6⟨pA,pc,rfl,hown,hb6⟩;have R0:=qac hb6 hl0 HR0.out;have R1:=qac hb6 hl1 HR1.out;have c21:w6.cell? ⟨w.heap.size,21,none⟩=some (.slice f.pA f.pn f.pc):=cell_of_row w6 _ 21 _ _ _ R0;have f21:=frozen_of_row w6 _ 21 _ _ R0;have hl0:=qa0 R0;have hz6:=hb6.size;have HOP:=hid (hown.lower HZ5.out);have HOB6:=hid (HOB5.out.below hb6);have HSL6:=hid (HSL5.out.below (hb6.mono HZ5.out));have HB6:=hid (HB5.out.trans (hb6.mono HB5.out.size));have HR0:=hid R0;have HR1:=hid R1;have HZ6:=hid (show lo<=w6.heap.size by have:=HZ5.out;omega);clear hown hb6 R0 R1 HSL5 HB5 HOB5 hz6 HZ5;go_upto_region 4 with fail;obtain⟨w7,hw7⟩:∃w7,w7=w6.setCell ⟨w.heap.size,21,none⟩ (.slice pA d.ps.length pc):=⟨_,rfl⟩;rw[<-hw7];have R0:w7.heap[w.heap.size]? =some (.cells ({f with call:=y,bA:=bA,bn:=d.bs.length,bc:=bc,pA:=pA,pn:=d.ps.length,pc:=pc}:qa5).enc.toArray 89 (0,0)):=by rw[hw7];exact qay HR0.out 21 _
 have R1:=(show w7.heap[w.heap.size+1]? =w6.heap[w.heap.size+1]? by rw[hw7];exact Below.heap_setCell _ _ _ _ (by simp)).trans HR1.out;have b7:Below w.heap.size w w7:=by rw[hw7];exact HB6.out.setCell (Nat.le_refl _) _
 have hk7:∀j,j≠w.heap.size->w7.heap[j]? =w6.heap[j]? :=λj hj=>by rw[hw7];exact Below.heap_setCell _ _ _ _ hj
 have hs7:w7.heap.size=w6.heap.size:=by rw[hw7,World.size_setCell]
 have HSL7:=hid (HSL6.out.keepQ HML2.out (w':=w7) λj hj=>hk7 j (by omega));have HOB7:=hid (HOB6.out.keep (w':=w7) λx off _ hx _=>hk7 x (by have:=HLOW.out;omega));have HOP7:=hid (HOP.out.keep (w':=w7) λx off _ hx _=>hk7 x (by have:=HLOW.out;omega));have hl0:=qa0 R0;have hl1:=qa0 R1;have HR0:=hid R0;have HR1:=hid R1;have HB7:=hid b7;have HZ7:=hid (show lo<=w7.heap.size by have:=HZ6.out;omega);have c22:w7.cell? ⟨w.heap.size,22,none⟩=some (.int .i64 f.code):=cell_of_row w7 _ 22 _ _ _ R0;have c23:w7.cell? ⟨w.heap.size,23,none⟩=some (.bool f.found):=cell_of_row w7 _ 23 _ _ _ R0;have c24:w7.cell? ⟨w.heap.size,24,none⟩=some (.string f.vl):=cell_of_row w7 _ 24 _ _ _ R0;have c25:w7.cell? ⟨w.heap.size,25,none⟩=some (.slice none 0 0):=cell_of_row w7 _ 25 _ _ _ R0;have c26:w7.cell? ⟨w.heap.size,26,none⟩=some (.slice f.hA d.hs.length f.hc):=(cell_of_row w7 _ 26 _ _ _ R0).trans (by rw[<-H.out.hits.2.1];rfl);have c27:w7.cell? ⟨w.heap.size,27,none⟩=some (.int .u64 (f.aep:Int)):=cell_of_row w7 _ 27 _ _ _ R0;clear hw7 hk7 hs7 HSL6 R0 R1 b7 HOB6 HOP HB6 HZ6 c21 f21;go_wp2_with fail;have TA:=qnv f.code f.found f.vl d.hs f.hA f.hc f.aep w7 ((H.out.hits.1.below HB7.out).more HB7.out.size) HF.out.hs;rw[show ansV f.code f.found f.vl f.hA d.hs.length f.hc f.aep=.agg #[.int .i64 f.code,.bool f.found,.string f.vl,.slice none 0 0,.slice f.hA d.hs.length f.hc,.int .u64 (f.aep:Int)]from rfl]at TA;refine TA.mono ?_;rintro e w8⟨hA,hc,rfl,hown,hb8⟩;have HAV:=hid (show ansV f.code f.found f.vl hA d.hs.length hc f.aep=.agg #[.int .i64 f.code,.bool f.found,.string f.vl,.slice none 0 0,.slice hA d.hs.length hc,.int .u64 (f.aep:Int)]from rfl);rw[HAV.out];have R0:=qac hb8 hl0 HR0.out;have R1:=qac hb8 hl1 HR1.out;have c22:w8.cell? ⟨w.heap.size,22,none⟩=some (.int .i64 f.code):=cell_of_row w8 _ 22 _ _ _ R0;have c23:w8.cell? ⟨w.heap.size,23,none⟩=some (.bool f.found):=cell_of_row w8 _ 23 _ _ _ R0;have c24:w8.cell? ⟨w.heap.size,24,none⟩=some (.string f.vl):=cell_of_row w8 _ 24 _ _ _ R0;have c25:w8.cell? ⟨w.heap.size,25,none⟩=some (.slice none 0 0):=cell_of_row w8 _ 25 _ _ _ R0;have c26:w8.cell? ⟨w.heap.size,26,none⟩=some (.slice f.hA f.hn f.hc):=cell_of_row w8 _ 26 _ _ _ R0;have c27:w8.cell? ⟨w.heap.size,27,none⟩=some (.int .u64 (f.aep:Int)):=cell_of_row w8 _ 27 _ _ _ R0;have f22:=frozen_of_row w8 _ 22 _ _ R0;have f23:=frozen_of_row w8 _ 23 _ _ R0;have f24:=frozen_of_row w8 _ 24 _ _ R0;have f25:=frozen_of_row w8 _ 25 _ _ R0;have f26:=frozen_of_row w8 _ 26 _ _ R0;have f27:=frozen_of_row w8 _ 27 _ _ R0;have hl0:=qa0 R0;have hz8:=hb8.size;have HOH:=hid (hown.lower HZ7.out);have HOB8:=hid (HOB7.out.below hb8);have HOP8:=hid (HOP7.out.below hb8);have HSL8:=hid (HSL7.out.below (hb8.mono HZ7.out));have HB8:=hid (HB7.out.trans (hb8.mono HB7.out.size));have HR0:=hid R0;have HR1:=hid R1;have HZ8:=hid (show lo<=w8.heap.size by have:=HZ7.out;omega);clear hown hb8 R0 R1 HSL7 HB7 HOB7 HOP7 hz8 HZ7 TA;go_upto_region 5 with fail;obtain⟨w9,hw9⟩:∃w9,w9=(((((w8.setCell ⟨w.heap.size,22,none⟩ (.int .i64 f.code)).setCell ⟨w.heap.size,23,none⟩ (.bool f.found)).setCell ⟨w.heap.size,24,none⟩ (.string f.vl)).setCell ⟨w.heap.size,25,none⟩ (.slice none 0 0)).setCell ⟨w.heap.size,26,none⟩ (.slice hA d.hs.length hc)).setCell ⟨w.heap.size,27,none⟩ (.int .u64 (f.aep:Int)):=⟨_,rfl⟩;rw[<-hw9];have R0:w9.heap[w.heap.size]? =some (.cells (f.as y d bA bc pA pc hA hc).enc.toArray 89 (0,0)):=by
  rw[hw9];exact qay (qay (qay (qay (qay (qay HR0.out 22 (.int .i64 f.code)) 23 (.bool f.found)) 24 (.string f.vl)) 25 (.slice none 0 0)) 26 (.slice hA d.hs.length hc)) 27 (.int .u64 (f.aep:Int))
 have hk9:∀j,j≠w.heap.size->w9.heap[j]? =w8.heap[j]? :=λj hj=>by
  rw[hw9,Below.heap_setCell _ _ _ _ hj];exact qco hj 22 _ _ _ _ _
 have hs9:w9.heap.size=w8.heap.size:=by rw[hw9];simp
 have R1:=(hk9 (w.heap.size+1) (by omega)).trans HR1.out;have b9:Below w.heap.size w w9:=by rw[hw9];exact(qba HB8.out (Nat.le_refl _) 22 _ _ _ _ _).setCell (Nat.le_refl _) _
 have HSL9:=hid (HSL8.out.keepQ HML2.out (w':=w9) λj hj=>hk9 j (by omega));have HOB9:=hid (HOB8.out.keep (w':=w9) λx off _ hx _=>hk9 x (by have:=HLOW.out;omega));have HOP9:=hid (HOP8.out.keep (w':=w9) λx off _ hx _=>hk9 x (by have:=HLOW.out;omega));have HOH9:=hid (HOH.out.keep (w':=w9) λx off _ hx _=>hk9 x (by have:=HLOW.out;omega));have HZ9:=hid (show lo<=w9.heap.size by have:=HZ8.out;omega);have HRA:=hid (qb5 R0);have TH:=hid (qai R1 HC.out);have HAL:=hid (all_oneCell_toArray (f.as y d bA bc pA pc hA hc).enc_one);obtain⟨f',hf'⟩:∃f',f'=f.as y d bA bc pA pc hA hc:=⟨_,rfl⟩;rw[<-hf']at HRA HAL;obtain⟨wA,hwA⟩:∃wA,wA=w9.setCells (w.heap.size+1) 0 f'.enc.toArray.toList:=⟨_,rfl⟩;have HWA:=hid hwA;have RG:=World.rangeAt_setCells_same w9 (w.heap.size+1) 0 f'.enc TH.out;have hkA:∀j,j≠w.heap.size+1->wA.heap[j]? =w9.heap[j]? :=λj hj=>by rw[hwA];exact qaa _ _ _ _ _ hj
 have hsA:wA.heap.size=w9.heap.size:=by rw[hwA];exact(qam _ _ _ _).2.2.2
 have HRG:Hid (wA.rangeAt (w.heap.size+1) 0 f'.enc):=hid (by rw[hwA];exact RG);have HBA:Hid (Below w.heap.size w wA):=hid (by rw[hwA];exact qae (by omega) _ _ _ b9);have HSLA:=hid (HSL9.out.keepQ HML2.out (w':=wA) λj hj=>hkA j (by omega));have HOBA:=hid (HOB9.out.keep (w':=wA) λx off _ hx _=>hkA x (by have:=HLOW.out;omega));have HOPA:=hid (HOP9.out.keep (w':=wA) λx off _ hx _=>hkA x (by have:=HLOW.out;omega));have HOHA:=hid (HOH9.out.keep (w':=wA) λx off _ hx _=>hkA x (by have:=HLOW.out;omega));have HZA:=hid (show lo<=wA.heap.size by have:=HZ9.out;omega);have HFE:=hid hf';clear hw9 hk9 hs9 R0 R1 b9 HSL9 HOB9 HOP9 HOH9 HZ9 hwA RG hkA hsA hf' HSL8 HOB8 HOP8 HOH HB8 HR0 HR1 HZ8 c22 c23 c24 c25 c26 c27 f22 f23 f24 f25 f26 f27;go_wp2_with(first|(refine wpList_load_mid rfl 89 (.tmp 1) rfl w.heap.size 0 (by first|rfl|simp[Act.eval]) f'.enc _ HRA.out underlying89 rfl qaf ?_)|(refine wpList_store_mid rfl 89 (.tmp 2) (.tmp 19) rfl (w.heap.size+1) 0 f'.enc.toArray (by first|rfl|simp[Act.eval]) (by first|rfl|simp[Act.eval]) TH.out qaf HAL.out ?_;rw[<-HWA.out]));refine bodyPost_ret (v:=f'.v) ?_ rfl ⟨y,M,bA,bc,pA,pc,hA,hc,lo,by rw[HFE.out],by have:=HLOW.out;omega,HZA.out,⟨HSY.out,HSM.out,HSLA.out,HOBA.out,HOPA.out,HOHA.out⟩,HBA.out,HMLZ.out⟩;exact qah results139 _ _ (w.heap.size+1) _ _ rfl HRG.out underlying89 rfl qaf
end
section
open Go.RowKit
def qf6(x y:qa3):Bool:=(x.key.toList==y.key.toList)&&(((x.id:Int)==(y.id:Int))&&(((x.ver:Int)==(y.ver:Int))&&((x.line==y.line)&&(x.cls==y.cls))))
theorem qix{x y:qa3}:qf6 x y=true↔x=y:=by
 obtain⟨k,i,v,l,c⟩:=x;obtain⟨k',i',v',l',c'⟩:=y;simp only[qf6,Bool.and_eq_true,beq_iff_eq,qa3.mk.injEq];constructor
 · rintro⟨h1,h2,h3,h4,h5⟩
   exact⟨qbu h1,by omega,by omega,h4,h5⟩
 · rintro⟨rfl,rfl,rfl,rfl,rfl⟩
   exact⟨rfl,rfl,rfl,rfl,rfl⟩
theorem qox(x y:qa3)(W:World):(binOp .eql 85 (.agg #[.string x.key,.int .u64 (x.id:Int),.int .u64 (x.ver:Int),.int .i64 x.line,.int .i64 x.cls]) (.agg #[.string y.key,.int .u64 (y.id:Int),.int .u64 (y.ver:Int),.int .i64 y.line,.int .i64 y.cls])).run prog W=.ok (.bool (qf6 x y)) W:=by
 simp[run_eql_struct,go_sem,qf6];(repeat' split) <;> simp_all
def gotT(T:Nat->List qa3)(key:ByteArray):Option qa3:=qd0 (T (bucket key)) key
def qby(T:Nat->List qa3)(Q:List qa3)(x:ChgC):Bool:=
 if qcf x=true then((gotT T x.key).isSome==x.had)&&(!(gotT T x.key).isSome||qf6 ((gotT T x.key).getD qak) x.old)
 else if x.kind=5 then Q.head?.isSome&&qf6 (Q.head?.getD qak) x.old else true
theorem qhm{w:World}{b:Nat}{t:TypeId}{z:qa3}(h:w.heap[b]? =some (.cells z.enc.toArray t (0,0)))(y:qa3):(((((w.setCell ⟨b,0,none⟩ (.string y.key)).setCell ⟨b,1,none⟩ (.int .u64 (y.id:Int))).setCell ⟨b,2,none⟩ (.int .u64 (y.ver:Int))).setCell ⟨b,3,none⟩ (.int .i64 y.line)).setCell ⟨b,4,none⟩ (.int .i64 y.cls)).heap[b]? =some (.cells y.enc.toArray t (0,0)):=
 qay (qay (qay (qay (qay h 0 (.string y.key)) 1 (.int .u64 (y.id:Int))) 2 (.int .u64 (y.ver:Int))) 3 (.int .i64 y.line)) 4 (.int .i64 y.cls)
theorem qgr(w:World)(y:qa3)(t:TypeId):(w.alloc (.cells #[.string y.key,.int .u64 (y.id:Int),.int .u64 (y.ver:Int),.int .i64 y.line,.int .i64 y.cls] t)).heap[w.heap.size]? =some (.cells y.enc.toArray t (0,0)):=(qa2 _ _ _).trans (if_pos rfl)
theorem qgh{w:World}{p c:Nat}{A:Option Addr}{Q:List qa3}(h:qmi w 0 p A c Q):Calls prog 251 #[.pointer (some ⟨p,0,none⟩)] w (qed (Q.head?.getD qak) Q.head?.isSome w):=by
 obtain⟨L,at',n,h1,rfl⟩:=h;have hp:=qa0 h1.box;have hk:∀W,Below w.heap.size w W->qbo W 0 p A c L at' n:=λW hb=>h1.keep (hb.block p hp) (λb _ hlt=>hb.block b hlt)
 by_cases hn:n=0
 · subst hn
   exact qgi w p qak false hp λW hb=>qn4 W 0 p A c L at' (hk W hb)
 · have hat:at'<L.length:=by have:=h1.fit;omega
   have e:(qd4 L at' n).head? =some L[at']:=by rw[ql5 h1.fit.1 hn hat L[at']];rfl
   rw[e];exact qgi w p L[at'] true hp λW hb=>qgf W 0 p A c L at' n (hk W hb) hn hat
theorem ChgC.cells{w:World}{p:Nat}{t:TypeId}{x:ChgC}(h:w.heap[p]? =some (.cells x.enc.toArray t (0,0))):w.cell? ⟨p,0,none⟩=some (.int .i64 x.kind)/\w.cell? ⟨p,1,none⟩=some (.string x.key)/\w.cell? ⟨p,2,none⟩=some (.string x.val)/\w.cell? ⟨p,3,none⟩=some (.bool x.had)/\w.cell? ⟨p,4,none⟩=some (.string x.old.key)/\w.cell? ⟨p,5,none⟩=some (.int .u64 (x.old.id:Int))/\w.cell? ⟨p,6,none⟩=some (.int .u64 (x.old.ver:Int))/\w.cell? ⟨p,7,none⟩=some (.int .i64 x.old.line)/\w.cell? ⟨p,8,none⟩=some (.int .i64 x.old.cls)/\w.cell? ⟨p,9,none⟩=some (.int .i64 x.line)/\w.cell? ⟨p,10,none⟩=some (.int .i64 x.cls):=
 ⟨cell_of_row w p 0 _ _ _ h,cell_of_row w p 1 _ _ _ h,cell_of_row w p 2 _ _ _ h,cell_of_row w p 3 _ _ _ h,cell_of_row w p 4 _ _ _ h,cell_of_row w p 5 _ _ _ h,cell_of_row w p 6 _ _ _ h,cell_of_row w p 7 _ _ _ h,cell_of_row w p 8 _ _ _ h,cell_of_row w p 9 _ _ _ h,cell_of_row w p 10 _ _ _ h⟩
theorem ChgC.v_eq(x:ChgC):x.v=.agg #[.int .i64 x.kind,.string x.key,.string x.val,.bool x.had,.string x.old.key,.int .u64 (x.old.id:Int),.int .u64 (x.old.ver:Int),.int .i64 x.old.line,.int .i64 x.old.cls,.int .i64 x.line,.int .i64 x.cls]:=rfl
section
variable {g:Own8}{w:World}{a:Nat}{P:qag}{M:qa4}
def quv(r:Bool)(w:World)(e:Ending)(w':World):Prop:=e=.returned (.bool r)/\Below w.heap.size w w'
theorem qt7(h:qa6 g w a P M)(x:ChgC)(hk:x.key.size<=1000000):Calls prog 305 #[.pointer (some ⟨a,0,none⟩),x.v] w (quv (qby M.T M.Q x) w):=by
 have H:=hid h;have HK:=hid hk;have HXV:=hid x.v_eq;rw[HXV.out];clear h hk;cases hm:qcf x with
 |true =>
  have hfb:qby M.T M.Q x=(((gotT M.T x.key).isSome==x.had)&&(!(gotT M.T x.key).isSome||qf6 ((gotT M.T x.key).getD qak) x.old)):=by rw[qby,if_pos hm]
  have HM:=hid hm;obtain⟨y,hy⟩:∃y,y=(gotT M.T x.key).getD qak:=⟨_,rfl⟩;obtain⟨ok,hok⟩:∃ok,ok=(gotT M.T x.key).isSome:=⟨_,rfl⟩;have HTG:Hid (∀W,Below w.heap.size w W->Calls prog 339 #[.pointer (some ⟨P.tb,0,none⟩),.string x.key] W λe w'=>e=.returned (.tuple #[.agg #[.string y.key,.int .u64 (y.id:Int),.int .u64 (y.ver:Int),.int .i64 y.line,.int .i64 y.cls],.bool ok])/\Below W.heap.size W w'):=hid λW hW=>by
   rw[hok,hy];exact qpt (H.out.below hW).tab x.key HK.out
  rw[<-hy,<-hok]at hfb;rw[hfb];clear hy hok;clear hm hfb;go_enter func305,ntmps305;go_upto_region 1 with fail;generalize hw1:World.alloc _ _=w1;have R0:w1.heap[w.heap.size]? =some (.cells x.enc.toArray 376 (0,0)):=by rw[<-hw1];exact(qa2 _ _ _).trans (if_pos rfl)
  have b1:Below w.heap.size w w1:=by rw[<-hw1];exact(Below.refl _ _).alloc (Nat.le_refl _) _
  obtain⟨c0,c1,c2,c3,c4,c5,c6,c7,c8,c9,cA⟩:=ChgC.cells R0;have hl0:=qa0 R0;have HR0:=hid R0;have HB1:=hid b1;clear hw1 R0 b1;go_wp2_with fail;have TM:=qdf x w1;rw[HXV.out]at TM;refine TM.mono ?_;rintro e w2⟨rfl,hb2⟩;rw[HM.out];have R0:=qac hb2 hl0 HR0.out;obtain⟨c0,c1,c2,c3,c4,c5,c6,c7,c8,c9,cA⟩:=ChgC.cells R0;have HB2:=hid (HB1.out.trans (hb2.mono HB1.out.size));have H2:=H.out.below HB2.out;have q5:=H2.cells.2.2.2.2.2.1;have hla:=qa0 H2.box.1;have hl0:=qa0 R0;have HR0:=hid R0;have HTG2:Hid (∀W,Below w2.heap.size w2 W->_):=hid λW (hW:Below w2.heap.size w2 W)=>HTG.out W (HB2.out.trans (hW.mono HB2.out.size))
  clear hb2 TM H2 R0 HTG HB1;go_upto_region 2 with fail;go_cut [5,6] (λv5 v6 wx=>∃p,v5=.pointer (some ⟨p,0,none⟩)/\wx.heap[p]? =some (.cells y.enc.toArray 85 (0,0))/\v6=.bool ok/\Below w2.heap.size w2 wx)
  case first =>
   go_region_with (go_at_call 339;refine(HTG2.out _ ?_).mono ?_;exact(by with_reducible repeat(first|exact Below.refl _ _|assumption|refine Below.drew ?_|refine qa1 ?_ _|refine Below.alloc ?_ (by first|omega|simp <;> omega) _|refine Below.setCell ?_ (by first|omega|simp <;> omega) _));rintro e w3⟨rfl,hb3⟩;(try(have hrow3:w3.heap[w2.heap.size]? =some (.cells qak.enc.toArray 85 (0,0)):=(hb3.block _ (by simp;done)).trans (by first|exact(qa2 _ _ _).trans (if_pos rfl)|exact(show(World.drew _).heap[_]? =_ from(qa2 _ _ _).trans (if_pos rfl))|exact(show(World.alloc _ _).heap[_]? =_ from(qa2 _ _ _).trans (if_pos (by simp))));have fk0:=frozen_of_row w3 _ 0 _ _ hrow3;have fk1:=frozen_of_row w3 _ 1 _ _ hrow3;have fk2:=frozen_of_row w3 _ 2 _ _ hrow3;have fk3:=frozen_of_row w3 _ 3 _ _ hrow3;have fk4:=frozen_of_row w3 _ 4 _ _ hrow3;have qk0:=cell_of_row w3 _ 0 _ _ _ hrow3;have qk1:=cell_of_row w3 _ 1 _ _ _ hrow3;have qk2:=cell_of_row w3 _ 2 _ _ _ hrow3;have qk3:=cell_of_row w3 _ 3 _ _ _ hrow3;have qk4:=cell_of_row w3 _ 4 _ _ _ hrow3;simp only[qa3.enc,List.getElem?_toArray,List.getElem?_cons_zero,List.getElem?_cons_succ]at qk0 qk1 qk2 qk3 qk4;have hlk3:=qa0 hrow3));have HB3:Hid (Below w2.heap.size w2 w3):=hid (by refine Below.trans ?_ (hb3.mono ?_);exact(by with_reducible repeat(first|exact Below.refl _ _|assumption|refine Below.drew ?_|refine qa1 ?_ _|refine Below.alloc ?_ (by first|omega|simp <;> omega) _|refine Below.setCell ?_ (by first|omega|simp <;> omega) _));(first|exact Nat.le_refl _|(simp;done)|(simp;omega)));clear hb3);all_goals
    go_wp2_with fail;go_meet;refine⟨_,rfl,?_,rfl,?_⟩
    · first|with_reducible exact qgr _ y _|with_reducible exact qhm hrow3 y
    · first|with_reducible exact HB3.out.alloc HB3.out.size _|exact qba HB3.out (Nat.le_refl _) 0 _ _ _ _ _
  obtain⟨p,rfl,hrow,rfl,hbc⟩:=hcut;obtain⟨w4,hw4⟩:∃x,x=wc:=⟨_,rfl⟩;subst hw4;have R0:=qac hbc hl0 HR0.out;obtain⟨c0,c1,c2,c3,c4,c5,c6,c7,c8,c9,cA⟩:=ChgC.cells R0;have k0:=cell_of_row w4 _ 0 _ _ _ hrow;have k1:=cell_of_row w4 _ 1 _ _ _ hrow;have k2:=cell_of_row w4 _ 2 _ _ _ hrow;have k3:=cell_of_row w4 _ 3 _ _ _ hrow;have k4:=cell_of_row w4 _ 4 _ _ _ hrow;simp only[qa3.enc,List.getElem?_toArray,List.getElem?_cons_zero,List.getElem?_cons_succ]at k0 k1 k2 k3 k4;have hlx:=qa0 hrow;have hl0:=qa0 R0;have LE:=qox y x.old;have HB4:=hid (HB2.out.trans (hbc.mono HB2.out.size));clear R0 hrow hbc HR0 HTG2 HB2;cases hc:(ok==x.had)with
  |false =>
   have HC:=hid hc;go_wp2_with fail;go_ret;exact⟨by rw[HC.out];rfl,HB4.out⟩
  |true =>
   have HC:=hid hc;cases ok with
   |false =>
    go_wp2_with fail;go_ret;exact⟨by rw[HC.out];rfl,HB4.out⟩
   |true =>
    go_wp2_with fail;go_ret;exact⟨by rw[HC.out];rfl,HB4.out⟩
 |false =>
  have HM:=hid hm;by_cases h5:x.kind=5
  · have hfb:qby M.T M.Q x=(M.Q.head?.isSome&&qf6 (M.Q.head?.getD qak) x.old):=by rw[qby,if_neg (by rw[hm];decide),if_pos h5]
    obtain⟨y,hy⟩:∃y,y=M.Q.head?.getD qak:=⟨_,rfl⟩;obtain⟨ok,hok⟩:∃ok,ok=M.Q.head?.isSome:=⟨_,rfl⟩;rw[<-hy,<-hok]at hfb;rw[hfb];have HTH:Hid (∀W,Below w.heap.size w W->Calls prog 251 #[.pointer (some ⟨P.lp,0,none⟩)] W λe w'=>e=.returned (.tuple #[.agg #[.string y.key,.int .u64 (y.id:Int),.int .u64 (y.ver:Int),.int .i64 y.line,.int .i64 y.cls],.bool ok])/\Below W.heap.size W w'):=hid λW hW=>by
     obtain⟨A,c,hq,_⟩:=(H.out.below hW).line;rw[hok,hy];exact qgh hq
    have H5:=hid h5;clear hy hok hm hfb h5;go_enter func305,ntmps305;go_upto_region 1 with fail;generalize hw1:World.alloc _ _=w1;have R0:w1.heap[w.heap.size]? =some (.cells x.enc.toArray 376 (0,0)):=by rw[<-hw1];exact(qa2 _ _ _).trans (if_pos rfl)
    have b1:Below w.heap.size w w1:=by rw[<-hw1];exact(Below.refl _ _).alloc (Nat.le_refl _) _
    obtain⟨c0,c1,c2,c3,c4,c5,c6,c7,c8,c9,cA⟩:=ChgC.cells R0;have hl0:=qa0 R0;have HR0:=hid R0;have HB1:=hid b1;clear hw1 R0 b1;go_wp2_with fail;have TM:=qdf x w1;rw[HXV.out]at TM;refine TM.mono ?_;rintro e w2⟨rfl,hb2⟩;rw[HM.out];have R0:=qac hb2 hl0 HR0.out;obtain⟨c0,c1,c2,c3,c4,c5,c6,c7,c8,c9,cA⟩:=ChgC.cells R0;rw[H5.out]at c0;have HB2:=hid (HB1.out.trans (hb2.mono HB1.out.size));have H2:=H.out.below HB2.out;have q7:=H2.cells.2.2.2.2.2.2.2.1;have hla:=qa0 H2.box.1;have hl0:=qa0 R0;have HR0:=hid R0;clear hb2 TM H2 R0 HB1;go_wp2_with fail;refine(HTH.out w2 HB2.out).mono ?_;rintro e w3⟨rfl,hb3⟩;have R0:=qac hb3 hl0 HR0.out;obtain⟨c0,c1,c2,c3,c4,c5,c6,c7,c8,c9,cA⟩:=ChgC.cells R0;rw[H5.out]at c0;have hl0:=qa0 R0;have HB3:=hid (HB2.out.trans (hb3.mono HB2.out.size));have LE:=qox y x.old;clear hb3 R0 HR0 q7;cases ok with
    |false =>
     go_wp2_with fail;go_ret;exact⟨rfl,HB3.out.alloc HB3.out.size _⟩
    |true =>
     go_wp2_with fail;go_ret;exact⟨rfl,HB3.out.alloc HB3.out.size _⟩
  · have hfb:qby M.T M.Q x=true:=by rw[qby,if_neg (by rw[hm];decide),if_neg h5]
    have H5:=hid h5;rw[hfb];have h5b:(x.kind==5)=false:=by rw[beq_eq_false_iff_ne];exact h5
    clear hm hfb h5;go_enter func305,ntmps305;go_upto_region 1 with fail;generalize hw1:World.alloc _ _=w1;have R0:w1.heap[w.heap.size]? =some (.cells x.enc.toArray 376 (0,0)):=by rw[<-hw1];exact(qa2 _ _ _).trans (if_pos rfl)
    have b1:Below w.heap.size w w1:=by rw[<-hw1];exact(Below.refl _ _).alloc (Nat.le_refl _) _
    obtain⟨c0,c1,c2,c3,c4,c5,c6,c7,c8,c9,cA⟩:=ChgC.cells R0;have hl0:=qa0 R0;have HR0:=hid R0;have HB1:=hid b1;clear hw1 R0 b1;go_wp2_with fail;have TM:=qdf x w1;rw[HXV.out]at TM;refine TM.mono ?_;rintro e w2⟨rfl,hb2⟩;rw[HM.out];have R0:=qac hb2 hl0 HR0.out;obtain⟨c0,c1,c2,c3,c4,c5,c6,c7,c8,c9,cA⟩:=ChgC.cells R0;have HB2:=hid (HB1.out.trans (hb2.mono HB1.out.size));have hl0:=qa0 R0;clear hb2 TM R0 HB1 HR0;go_wp2_with fail;go_ret;exact⟨rfl,HB2.out⟩
end
end
end Go.Proofs.YtecikkjbnkhhkaaGreat
