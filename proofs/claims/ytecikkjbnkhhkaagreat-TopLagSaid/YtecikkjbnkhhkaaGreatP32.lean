/- A part of the walk. -/
import Derived.Test.YtecikkjbnkhhkaaGreatP30
namespace Go.Proofs.YtecikkjbnkhhkaaGreat
open _root_.Go.Proofs.Tryz
set_option maxHeartbeats 4000000
set_option maxRecDepth 100000
section
open Go.RowKit
def ptN:Nat->Nat
 |0=>181
 |1=>182
 |2=>183
 |3=>184
 |4=>185
 |5=>186
 |_=>187
theorem qa5.v_eq(f:qa5):f.v=.agg #[.int .i64 f.call.kind,.string f.call.key,.string f.call.val,.string f.call.tx,.slice f.call.gA f.call.gn f.call.gc,.int .i64 f.phase,.int .u64 (f.ep:Int),.string f.pos,.bool f.past,.int .i64 f.level,.bool f.had,
 .string f.old.key,.int .u64 (f.old.id:Int),.int .u64 (f.old.ver:Int),.int .i64 f.old.line,.int .i64 f.old.cls,.int .i64 f.line,.int .i64 f.cls,.int .i64 f.piece,.slice f.bA f.bn f.bc,.int .i64 f.at',.slice f.pA f.pn f.pc,
 .int .i64 f.code,.bool f.found,.string f.vl,.slice none 0 0,.slice f.hA f.hn f.hc,.int .u64 (f.aep:Int)]:=rfl
section
variable {g:Own8}{w:World}{a t:Nat}{P:qag}{M:qa4}
theorem qis{R:qa5->FrD->qa4->qa5->FrD->Prop}(h:qa6 g w a P M)(f:qa5)(d:FrD)(hf:qbt w w.heap.size f d.gr d.bs d.ps d.hs)(hfit:quy d)(hk1:1<=f.call.kind)(hk3:f.call.kind<=3)(k:Nat)(hk7:k<7)(hph:f.phase=(k:Int))
 (HP:∀g1 W b lo f1 d1,qdm f d f1 d1->WSt g1 W lo a P M b t 281 f1 d1->lo<=W.heap.size->Calls prog (ptN k) #[.pointer (some ⟨b,0,none⟩)] W (qal lo a P b t 281 (R f1 d1) g1 W))
 (HR:∀f1 d1 M' f' d',R f1 d1 M' f' d'->f'.call=f1.call/\d'.gr=d1.gr):Calls prog 109 #[.pointer (some ⟨a,0,none⟩),.int .i64 (t:Int),f.v] w (qcy a P R f d g w):=by
 have H:=hid h;have HF:=hid hf;have HFF:=hid hfit;have HHP:=hid HP;have HHR:=hid HR;have HV:=hid f.v_eq;have HPH:=hid hph;rw[HV.out];clear h hf hfit HP HR hph;go_enter func109,ntmps109;go_upto_region 1 with fail;generalize hw1:World.alloc _ _=w1;have R0:w1.heap[w.heap.size]? =some (.cells f.enc.toArray 89 (0,0)):=by rw[<-hw1];exact(Below.heap_alloc _ _ _ (by simp)).trans ((qa2 _ _ _).trans (if_pos rfl))
 obtain⟨cur,R1,hcur⟩:∃cur,w1.heap[w.heap.size+1]? =some (.cells cur 89 (0,0))/\cur.size=28:=⟨_,by rw[<-hw1];exact(qa2 _ _ _).trans (if_pos (by simp)),rfl⟩;have b1:Below w.heap.size w w1:=by rw[<-hw1];exact((Below.refl _ _).alloc (Nat.le_refl _) _).alloc (by simp) _
 have hl0:=qa0 R0;have hl1:=qa0 R1;have HR0:=hid R0;have HR1:=hid R1;have HB1:=hid b1;have HC:=hid hcur;have HRA:=hid (qb5 R0);have TC:=hid (qg6 f d w1 ((HF.out.below b1).more b1.size) HFF.out);clear hw1 R0 R1 b1 hcur;go_upto_region 2 with(refine wpList_load_mid rfl 89 (.tmp 5) rfl w.heap.size 0 (by first|rfl|simp[Act.eval]) f.enc _ HRA.out underlying89 rfl qaf ?_);refine TC.out.mono ?_;rintro e w2⟨y,Mg,bA,bc,pA,pc,hA,hc,lo,rfl,hlo,hlo2,hcp,hb2,hgl⟩;have hsm:=And.intro hcp.sim hcp.sims;have hz1:=HB1.out.size;have R0:=qac hb2 hl0 HR0.out;have R1:=qac hb2 hl1 HR1.out;have hl12:=hl1;clear hl0 hl1 HR0 HR1;obtain⟨f1,hf1⟩:∃f1,f1=f.as y d bA bc pA pc hA hc:=⟨_,rfl⟩;obtain⟨d1,hd1⟩:∃d1:FrD,d1= {gr:=Mg,bs:=d.bs,ps:=d.ps,hs:=d.hs}:=⟨_,rfl⟩;have HST:Hid (∀w3,Below w2.heap.size w2 w3->qbq w3 w2.heap.size a t 281 f1->WSt g w3 lo a P M w2.heap.size t 281 f1 d1):=hid λw3 hb3 hw3=>by
  rw[hf1]at hw3 ⊢;rw[hd1];refine qgz H.out hcp (by omega) hlo2 ?_ (HB1.out.trans (hb2.mono hz1)) (.inl rfl) hb3 hw3;rcases hgl with h0|⟨x,off,h1,h2⟩
  · exact .inl h0
  · exact .inr ⟨x,off,h1,by omega⟩
 have HSAME:Hid (qdm f d f1 d1):=hid ⟨⟨y,bA,bc,pA,pc,hA,hc,hf1,hsm.1⟩,by rw[hd1];exact hsm.2,by rw[hd1],by rw[hd1],by rw[hd1]⟩;have HGL:Hid (d1.gr=[]\/∃x off,f1.call.gA=some ⟨x,off,none⟩/\w.heap.size+2<=x):=hid (by
  rw[hf1,hd1]
  rcases hgl with h0|⟨x,off,h1,h2⟩
  · exact .inl h0
  · exact .inr ⟨x,off,h1,by omega⟩)
 have HLO:=hid (show w.heap.size<=lo/\lo<=w2.heap.size/\w.heap.size+1<lo by omega);have HB2:=hid (HB1.out.trans (hb2.mono HB1.out.size));rw[<-hf1,f1.v_eq];have hl0:=qa0 R0;have hl1:=qa0 R1;have HR0:=hid R0;have HR1:=hid R1;clear hcp hb2 hgl hsm hf1 hd1 hl12 TC R0 R1 HRA hlo hlo2 hz1 HB1;go_upto_region 2 with fail;generalize hw3:World.alloc _ _=w3;have R2:w3.heap[w2.heap.size]? =some (.cells (qi9 a t f1).toArray 281 (0,0)):=by rw[<-hw3];exact(qa2 _ _ _).trans (if_pos rfl)
 have b3:Below w2.heap.size w2 w3:=by rw[<-hw3];exact(Below.refl _ _).alloc (Nat.le_refl _) _
 have W3:=HST.out w3 b3 R2;have R0:=qac b3 hl0 HR0.out;have R1:=qac b3 hl1 HR1.out;clear hl0 hl1 HR0 HR1;have hm0:=qa0 R0;have hm1:=qa0 R1;have HR0:=hid R0;have HR1:=hid R1;have HW3:=hid W3;have HB3:=hid (HB2.out.trans (b3.mono HB2.out.size));have hz3:=b3.size;have hbl:=qa0 R2;have HLO3:=hid (show lo<=w3.heap.size by have:=HLO.out;omega);have HNE:=hid (show w.heap.size<w2.heap.size/\w.heap.size+1<w2.heap.size by have:=HLO.out;omega);generalize w2.heap.size=b at *;clear hw3 R2 b3 W3 R0 R1 HST HB2 hz3;go_wp2_with fail;refine(ql8 w3).mono ?_;rintro e w4⟨rfl,hb4⟩;have HB4:=hid hb4;have HAL:=hid (all_oneCell_toArray qla);clear hb4;go_upto_region 3 with(refine wpList_store_mid rfl 283 (.tmp 8) (.tmp 15) rfl w4.heap.size 0 qft.toArray (by first|rfl|simp[Act.eval]) (by first|rfl|simp[Act.eval]) (qai ((qa2 _ _ _).trans (if_pos rfl)) rfl) qfs HAL.out ?_);generalize hw5:World.setCells _ _ _ _=w5;have HRG:Hid (w5.rangeAt w4.heap.size 0 qft):=hid (by rw[<-hw5];exact World.rangeAt_setCells_same _ w4.heap.size 0 qft (qai ((qa2 _ _ _).trans (if_pos rfl)) rfl));have b5:Below w3.heap.size w3 w5:=by rw[<-hw5];exact qae HB4.out.size _ _ _ (HB4.out.alloc HB4.out.size _)
 have hz5:w4.heap.size<w5.heap.size:=by rw[<-hw5,(qam _ _ _ _).2.2.2];simp
 have R0:=qac b5 hm0 HR0.out;have R1:=qac b5 hm1 HR1.out;clear hm0 hm1 HR0 HR1;have hl0:=qa0 R0;have hl1:=qa0 R1;have HR1:=hid R1;have HW5:=hid (HW3.out.below b5);have HB5:=hid (HB3.out.trans (b5.mono HB3.out.size));have HLO5:=hid (show lo<=w5.heap.size by have:=b5.size;have:=HLO3.out;omega);have k0:w5.cell? ⟨w.heap.size,0,none⟩=some (.int .i64 f.call.kind):=cell_of_row w5 _ 0 _ _ _ R0;have k5:w5.cell? ⟨w.heap.size,5,none⟩=some (.int .i64 (k:Int)):=by rw[<-HPH.out];exact cell_of_row w5 _ 5 _ _ _ R0
 have hbl:=HW5.out.box.lt;have dd1:decide (f.call.kind<1)=false:=decide_eq_false (by omega);have dd2:decide (3<f.call.kind)=false:=decide_eq_false (by omega);have dd3:decide ((k:Int)<0)=false:=decide_eq_false (by omega);have dd4:decide (7<=(k:Int))=false:=decide_eq_false (by omega);generalize w4.heap.size=q at *;clear hw5 b5 HB4 HB3 R0 HW3 HLO3 R1;go_upto_region 5 with fail;go_cut [] (λwx=>∃M' f' d' g',R f1 d1 M' f' d'/\WSt g' wx lo a P M' b t 281 f' d'/\ExtB lo b g g' w5 wx)
 case first =>
  rcases k with _|_|_|_|_|_|_|k
  · have k5':w5.cell? ⟨w.heap.size,5,none⟩=some (.int .i64 0):=k5
    have kq:w5.cell? ⟨q,0,none⟩=some (.func (.func (ptN 0)) #[] #[]):=by have:=HRG.out 0 _ rfl;rw[Nat.zero_add]at this;exact this
    have TP:=hid (HHP.out g w5 b lo f1 d1 HSAME.out HW5.out HLO5.out);clear k5;go_wp2_with fail;refine TP.out.mono ?_;rintro r w6⟨rfl,M',f',d',hr,g',h6,e6⟩;have HR6:=hid hr;have H6:=hid h6;have HE6:=hid e6;clear hr h6 e6 TP;go_wp2_with fail;go_meet;exact⟨M',f',d',g',HR6.out,H6.out,HE6.out⟩
  · have k5':w5.cell? ⟨w.heap.size,5,none⟩=some (.int .i64 1):=k5
    have kq:w5.cell? ⟨q,1,none⟩=some (.func (.func (ptN 1)) #[] #[]):=by have:=HRG.out 1 _ rfl;rw[Nat.zero_add]at this;exact this
    have TP:=hid (HHP.out g w5 b lo f1 d1 HSAME.out HW5.out HLO5.out);clear k5;go_wp2_with fail;refine TP.out.mono ?_;rintro r w6⟨rfl,M',f',d',hr,g',h6,e6⟩;have HR6:=hid hr;have H6:=hid h6;have HE6:=hid e6;clear hr h6 e6 TP;go_wp2_with fail;go_meet;exact⟨M',f',d',g',HR6.out,H6.out,HE6.out⟩
  · have k5':w5.cell? ⟨w.heap.size,5,none⟩=some (.int .i64 2):=k5
    have kq:w5.cell? ⟨q,2,none⟩=some (.func (.func (ptN 2)) #[] #[]):=by have:=HRG.out 2 _ rfl;rw[Nat.zero_add]at this;exact this
    have TP:=hid (HHP.out g w5 b lo f1 d1 HSAME.out HW5.out HLO5.out);clear k5;go_wp2_with fail;refine TP.out.mono ?_;rintro r w6⟨rfl,M',f',d',hr,g',h6,e6⟩;have HR6:=hid hr;have H6:=hid h6;have HE6:=hid e6;clear hr h6 e6 TP;go_wp2_with fail;go_meet;exact⟨M',f',d',g',HR6.out,H6.out,HE6.out⟩
  · have k5':w5.cell? ⟨w.heap.size,5,none⟩=some (.int .i64 3):=k5
    have kq:w5.cell? ⟨q,3,none⟩=some (.func (.func (ptN 3)) #[] #[]):=by have:=HRG.out 3 _ rfl;rw[Nat.zero_add]at this;exact this
    have TP:=hid (HHP.out g w5 b lo f1 d1 HSAME.out HW5.out HLO5.out);clear k5;go_wp2_with fail;refine TP.out.mono ?_;rintro r w6⟨rfl,M',f',d',hr,g',h6,e6⟩;have HR6:=hid hr;have H6:=hid h6;have HE6:=hid e6;clear hr h6 e6 TP;go_wp2_with fail;go_meet;exact⟨M',f',d',g',HR6.out,H6.out,HE6.out⟩
  · have k5':w5.cell? ⟨w.heap.size,5,none⟩=some (.int .i64 4):=k5
    have kq:w5.cell? ⟨q,4,none⟩=some (.func (.func (ptN 4)) #[] #[]):=by have:=HRG.out 4 _ rfl;rw[Nat.zero_add]at this;exact this
    have TP:=hid (HHP.out g w5 b lo f1 d1 HSAME.out HW5.out HLO5.out);clear k5;go_wp2_with fail;refine TP.out.mono ?_;rintro r w6⟨rfl,M',f',d',hr,g',h6,e6⟩;have HR6:=hid hr;have H6:=hid h6;have HE6:=hid e6;clear hr h6 e6 TP;go_wp2_with fail;go_meet;exact⟨M',f',d',g',HR6.out,H6.out,HE6.out⟩
  · have k5':w5.cell? ⟨w.heap.size,5,none⟩=some (.int .i64 5):=k5
    have kq:w5.cell? ⟨q,5,none⟩=some (.func (.func (ptN 5)) #[] #[]):=by have:=HRG.out 5 _ rfl;rw[Nat.zero_add]at this;exact this
    have TP:=hid (HHP.out g w5 b lo f1 d1 HSAME.out HW5.out HLO5.out);clear k5;go_wp2_with fail;refine TP.out.mono ?_;rintro r w6⟨rfl,M',f',d',hr,g',h6,e6⟩;have HR6:=hid hr;have H6:=hid h6;have HE6:=hid e6;clear hr h6 e6 TP;go_wp2_with fail;go_meet;exact⟨M',f',d',g',HR6.out,H6.out,HE6.out⟩
  · have k5':w5.cell? ⟨w.heap.size,5,none⟩=some (.int .i64 6):=k5
    have kq:w5.cell? ⟨q,6,none⟩=some (.func (.func (ptN 6)) #[] #[]):=by have:=HRG.out 6 _ rfl;rw[Nat.zero_add]at this;exact this
    have TP:=hid (HHP.out g w5 b lo f1 d1 HSAME.out HW5.out HLO5.out);clear k5;go_wp2_with fail;refine TP.out.mono ?_;rintro r w6⟨rfl,M',f',d',hr,g',h6,e6⟩;have HR6:=hid hr;have H6:=hid h6;have HE6:=hid e6;clear hr h6 e6 TP;go_wp2_with fail;go_meet;exact⟨M',f',d',g',HR6.out,H6.out,HE6.out⟩
  · omega
 obtain⟨M',f',d',g',hr,h6,e6⟩:=hcut;obtain⟨w6,hw6⟩:∃x,x=wc:=⟨_,rfl⟩;subst hw6;have hb6:=e6.only.size;have hr1:w6.heap[w.heap.size+1]? =w5.heap[w.heap.size+1]? :=e6.only.block _ hl1 (by have:=H.out.far (w.heap.size+1) (by omega);have:=HLO.out;have:=HNE.out;omega);have hg1:g' (w.heap.size+1)=0:=(e6.old _ hl1).trans (H.out.far _ (by omega));have R1:=hr1.trans HR1.out;have TH:=hid (qai R1 HC.out);have HRA:=hid h6.box.range;have HALF:=hid (all_oneCell_toArray f'.enc_one);obtain⟨hcall,hdgr⟩:=HHR.out _ _ _ _ _ hr;have F6:FrAt (λx=>g' x=0/\w.heap.size+2<=x) w6 f' d':=qjh h6 _ (by have:=HLO.out;omega) (by rw[hcall,hdgr];exact HGL.out);obtain⟨w7,hw7⟩:∃w7,w7=w6.setCells (w.heap.size+1) 0 f'.enc.toArray.toList:=⟨_,rfl⟩;have HW7:=hid hw7;have HRG7:Hid (w7.rangeAt (w.heap.size+1) 0 f'.enc):=hid (by rw[hw7];exact World.rangeAt_setCells_same w6 (w.heap.size+1) 0 f'.enc TH.out);have HA7:Hid (qa6 g' w7 a P M'):=hid (by rw[hw7];exact h6.ar.sets0 hg1 0 _);have HE6:Ext g g' w w6:=ExtB.ext (Ext.below HB5.out) e6 (by have:=HNE.out;omega) (by have:=HLO.out;omega);have HE7:Hid (Ext g g' w w7):=hid (ExtB.ext (lo:=w.heap.size) (b:=w.heap.size+1) HE6 (by rw[hw7];exact ExtB.sets 0 _) (by omega) (Nat.le_refl _));have HF7:Hid (FrAt (λx=>g' x=0/\w.heap.size<=x) w7 f' d'):=hid ((F6.keep (w':=w7) (by rw[hw7,(qam _ _ _ _).2.2.2];exact Nat.le_refl _) (λx _ hx=>by rw[hw7];exact qaa _ _ _ _ _ (by omega))).mono λx hx=>⟨hx.1,by omega⟩);have HR6:=hid hr;clear hw7 HE6 F6 hcall hdgr R1 hr1 hg1 hr h6 e6 hb6 dd1 dd2 dd3 dd4 k0 k5 HRG;go_wp2_with(first|(refine wpList_load_mid rfl 89 (.tmp 52) rfl b 2 (by first|rfl|simp[Act.eval]) f'.enc _ HRA.out underlying89 rfl qaf ?_)|(refine wpList_store_mid rfl 89 (.tmp 6) (.tmp 53) rfl (w.heap.size+1) 0 f'.enc.toArray (by first|rfl|simp[Act.eval]) (by first|rfl|simp[Act.eval]) TH.out qaf HALF.out ?_;rw[<-HW7.out]));refine bodyPost_ret (v:=f'.v) ?_ rfl ⟨f1,d1,M',f',d',g',rfl,HSAME.out,HR6.out,HA7.out,HE7.out,HF7.out⟩;exact qah results109 _ _ (w.heap.size+1) _ _ rfl HRG7.out underlying89 rfl qaf
end
end
section
open Go.RowKit
def qey:List Value:=[.func (.func 188) #[] #[],.func (.func 189) #[] #[],.func (.func 190) #[] #[],.func (.func 191) #[] #[],.func (.func 192) #[] #[],.func (.func 193) #[] #[],.func (.func 194) #[] #[]]
theorem qfk:(prog.info? 289).map (·.size)=some 7:=by kernel_rfl
theorem qky:∀v∈qey,v.oneCell'=true:=by
 intro v hv;simp only[qey,List.mem_cons,List.not_mem_nil,or_false]at hv;rcases hv with rfl|rfl|rfl|rfl|rfl|rfl|rfl <;> rfl
theorem qkx(w:World):Calls prog 141 #[] w λe w'=>e=.returned (.agg qey.toArray)/\Below w.heap.size w w':=by
 go_enter func141,ntmps141;go_upto_region 1 with fail;generalize hw1:World.alloc _ _=w1;obtain⟨cur,R1,hcur⟩:∃cur,w1.heap[w.heap.size]? =some (.cells cur 289 (0,0))/\cur.size=7:=⟨_,by rw[<-hw1];exact(qa2 _ _ _).trans (if_pos rfl),rfl⟩;have HB1:Hid (Below w.heap.size w w1):=hid (by rw[<-hw1];exact(Below.refl _ _).alloc (Nat.le_refl _) _);have TH:=hid (qai R1 hcur);have hl1:=qa0 R1;have HAL:=hid (all_oneCell_toArray qky);obtain⟨w2,hw2⟩:∃w2,w2=w1.setCells w.heap.size 0 qey.toArray.toList:=⟨_,rfl⟩;have HW2:=hid hw2;have HRG:Hid (w2.rangeAt w.heap.size 0 qey):=hid (by rw[hw2];exact World.rangeAt_setCells_same w1 w.heap.size 0 qey TH.out);have HB2:Hid (Below w.heap.size w w2):=hid (by rw[hw2];exact qae (Nat.le_refl _) _ _ _ HB1.out);clear hw1 hw2 R1 hcur;go_wp2_with(refine wpList_store_mid rfl 289 (.tmp 0) (.tmp 1) rfl w.heap.size 0 qey.toArray (by first|rfl|simp[Act.eval]) (by first|rfl|simp[Act.eval,qey]) TH.out qfk HAL.out ?_;rw[<-HW2.out]);refine bodyPost_ret (v:=.agg qey.toArray) ?_ rfl ⟨rfl,HB2.out⟩;exact qah results141 _ _ w.heap.size qey _ rfl HRG.out underlying289 rfl qfk
def tlN:Nat->Nat
 |0=>188
 |1=>189
 |2=>190
 |3=>191
 |4=>192
 |5=>193
 |_=>194
section
variable {g:Own8}{w:World}{a t:Nat}{P:qag}{M:qa4}
theorem qpm{R:qa5->FrD->qa4->qa5->FrD->Prop}(h:qa6 g w a P M)(f:qa5)(d:FrD)(hf:qbt w w.heap.size f d.gr d.bs d.ps d.hs)(hfit:quy d)(k:Nat)(hkk:f.call.kind=5\/(f.call.kind=4/\k≠1/\k≠2))(hk7:k<7)(hph:f.phase=(k:Int))
 (HP:∀g1 W b lo f1 d1,qdm f d f1 d1->WSt g1 W lo a P M b t 287 f1 d1->lo<=W.heap.size->Calls prog (tlN k) #[.pointer (some ⟨b,0,none⟩)] W (qal lo a P b t 287 (R f1 d1) g1 W))
 (HR:∀f1 d1 M' f' d',R f1 d1 M' f' d'->f'.call=f1.call/\d'.gr=d1.gr):Calls prog 110 #[.pointer (some ⟨a,0,none⟩),.int .i64 (t:Int),f.v] w (qcy a P R f d g w):=by
 have H:=hid h;have HF:=hid hf;have HFF:=hid hfit;have HHP:=hid HP;have HHR:=hid HR;have HV:=hid f.v_eq;have HPH:=hid hph;rw[HV.out];clear h hf hfit HP HR hph;go_enter func110,ntmps110;go_upto_region 1 with fail;generalize hw1:World.alloc _ _=w1;have R0:w1.heap[w.heap.size]? =some (.cells f.enc.toArray 89 (0,0)):=by rw[<-hw1];exact(Below.heap_alloc _ _ _ (by simp)).trans ((qa2 _ _ _).trans (if_pos rfl))
 obtain⟨cur,R1,hcur⟩:∃cur,w1.heap[w.heap.size+1]? =some (.cells cur 89 (0,0))/\cur.size=28:=⟨_,by rw[<-hw1];exact(qa2 _ _ _).trans (if_pos (by simp)),rfl⟩;have b1:Below w.heap.size w w1:=by rw[<-hw1];exact((Below.refl _ _).alloc (Nat.le_refl _) _).alloc (by simp) _
 have hl0:=qa0 R0;have hl1:=qa0 R1;have HR0:=hid R0;have HR1:=hid R1;have HB1:=hid b1;have HC:=hid hcur;have HRA:=hid (qb5 R0);have TC:=hid (qg6 f d w1 ((HF.out.below b1).more b1.size) HFF.out);clear hw1 R0 R1 b1 hcur;go_upto_region 2 with(refine wpList_load_mid rfl 89 (.tmp 5) rfl w.heap.size 0 (by first|rfl|simp[Act.eval]) f.enc _ HRA.out underlying89 rfl qaf ?_);refine TC.out.mono ?_;rintro e w2⟨y,Mg,bA,bc,pA,pc,hA,hc,lo,rfl,hlo,hlo2,hcp,hb2,hgl⟩;have hsm:=And.intro hcp.sim hcp.sims;have hz1:=HB1.out.size;have R0:=qac hb2 hl0 HR0.out;have R1:=qac hb2 hl1 HR1.out;have hl12:=hl1;clear hl0 hl1 HR0 HR1;obtain⟨f1,hf1⟩:∃f1,f1=f.as y d bA bc pA pc hA hc:=⟨_,rfl⟩;obtain⟨d1,hd1⟩:∃d1:FrD,d1= {gr:=Mg,bs:=d.bs,ps:=d.ps,hs:=d.hs}:=⟨_,rfl⟩;have HST:Hid (∀w3,Below w2.heap.size w2 w3->qbq w3 w2.heap.size a t 287 f1->WSt g w3 lo a P M w2.heap.size t 287 f1 d1):=hid λw3 hb3 hw3=>by
  rw[hf1]at hw3 ⊢;rw[hd1];refine qgz H.out hcp (by omega) hlo2 ?_ (HB1.out.trans (hb2.mono hz1)) (.inr (.inl rfl)) hb3 hw3;rcases hgl with h0|⟨x,off,h1,h2⟩
  · exact .inl h0
  · exact .inr ⟨x,off,h1,by omega⟩
 have HSAME:Hid (qdm f d f1 d1):=hid ⟨⟨y,bA,bc,pA,pc,hA,hc,hf1,hsm.1⟩,by rw[hd1];exact hsm.2,by rw[hd1],by rw[hd1],by rw[hd1]⟩;have HGL:Hid (d1.gr=[]\/∃x off,f1.call.gA=some ⟨x,off,none⟩/\w.heap.size+2<=x):=hid (by
  rw[hf1,hd1]
  rcases hgl with h0|⟨x,off,h1,h2⟩
  · exact .inl h0
  · exact .inr ⟨x,off,h1,by omega⟩)
 have HLO:=hid (show w.heap.size<=lo/\lo<=w2.heap.size/\w.heap.size+1<lo by omega);have HB2:=hid (HB1.out.trans (hb2.mono HB1.out.size));rw[<-hf1,f1.v_eq];have hl0:=qa0 R0;have hl1:=qa0 R1;have HR0:=hid R0;have HR1:=hid R1;clear hcp hb2 hgl hsm hf1 hd1 hl12 TC R0 R1 HRA hlo hlo2 hz1 HB1;go_upto_region 2 with fail;generalize hw3:World.alloc _ _=w3;have R2:w3.heap[w2.heap.size]? =some (.cells (qi9 a t f1).toArray 287 (0,0)):=by rw[<-hw3];exact(qa2 _ _ _).trans (if_pos rfl)
 have b3:Below w2.heap.size w2 w3:=by rw[<-hw3];exact(Below.refl _ _).alloc (Nat.le_refl _) _
 have W3:=HST.out w3 b3 R2;have R0:=qac b3 hl0 HR0.out;have R1:=qac b3 hl1 HR1.out;clear hl0 hl1 HR0 HR1;have hm0:=qa0 R0;have hm1:=qa0 R1;have HR0:=hid R0;have HR1:=hid R1;have HW3:=hid W3;have HB3:=hid (HB2.out.trans (b3.mono HB2.out.size));have hz3:=b3.size;have hbl:=qa0 R2;have HLO3:=hid (show lo<=w3.heap.size by have:=HLO.out;omega);have HNE:=hid (show w.heap.size<w2.heap.size/\w.heap.size+1<w2.heap.size by have:=HLO.out;omega);generalize w2.heap.size=b at *;clear hw3 R2 b3 W3 R0 R1 HST HB2 hz3;go_wp2_with fail;refine(qkx w3).mono ?_;rintro e w4⟨rfl,hb4⟩;have HB4:=hid hb4;have HAL:=hid (all_oneCell_toArray qky);clear hb4;go_upto_region 3 with(refine wpList_store_mid rfl 289 (.tmp 8) (.tmp 17) rfl w4.heap.size 0 qey.toArray (by first|rfl|simp[Act.eval]) (by first|rfl|simp[Act.eval]) (qai ((qa2 _ _ _).trans (if_pos rfl)) rfl) qfk HAL.out ?_);generalize hw5:World.setCells _ _ _ _=w5;have HRG:Hid (w5.rangeAt w4.heap.size 0 qey):=hid (by rw[<-hw5];exact World.rangeAt_setCells_same _ w4.heap.size 0 qey (qai ((qa2 _ _ _).trans (if_pos rfl)) rfl));have b5:Below w3.heap.size w3 w5:=by rw[<-hw5];exact qae HB4.out.size _ _ _ (HB4.out.alloc HB4.out.size _)
 have hz5:w4.heap.size<w5.heap.size:=by rw[<-hw5,(qam _ _ _ _).2.2.2];simp
 have R0:=qac b5 hm0 HR0.out;have R1:=qac b5 hm1 HR1.out;clear hm0 hm1 HR0 HR1;have hl0:=qa0 R0;have hl1:=qa0 R1;have HR0:=hid R0;have HR1:=hid R1;have HW5:=hid (HW3.out.below b5);have HB5:=hid (HB3.out.trans (b5.mono HB3.out.size));have HLO5:=hid (show lo<=w5.heap.size by have:=b5.size;have:=HLO3.out;omega);have k0:w5.cell? ⟨w.heap.size,0,none⟩=some (.int .i64 f.call.kind):=cell_of_row w5 _ 0 _ _ _ R0;have k5:w5.cell? ⟨w.heap.size,5,none⟩=some (.int .i64 (k:Int)):=by rw[<-HPH.out];exact cell_of_row w5 _ 5 _ _ _ R0
 have dd3:decide ((k:Int)<0)=false:=decide_eq_false (by omega);have dd4:decide (7<=(k:Int))=false:=decide_eq_false (by omega);have hkk2:((f.call.kind==4)=false/\(f.call.kind==5)=true)\/((f.call.kind==4)=true/\(f.call.kind==5)=false/\((k:Int)==1)=false/\((k:Int)==2)=false):=by
  rcases hkk with h5|⟨h4,hn1,hn2⟩
  · exact .inl ⟨by rw[h5];rfl,by rw[h5];rfl⟩
  · exact .inr ⟨by rw[h4];rfl,by rw[h4];rfl,by rw[beq_eq_false_iff_ne];omega,by rw[beq_eq_false_iff_ne];omega⟩
 have HKK:=hid hkk2;generalize w4.heap.size=q at *;clear hw5 b5 R0 R1 HB4 HB3 HW3 HLO3 hkk hkk2;simp only[Act.put];go_upto_region 3 with fail;go_cut [9,10] (λv9 v10 wx=>v9=.bool (f.call.kind==4)/\v10=.bool (f.call.kind==5)/\Below w5.heap.size w5 wx)
 case first =>
  go_quiet (fail);go_wp2_with fail;go_meet;exact⟨rfl,rfl,(by with_reducible repeat(first|exact Below.refl _ _|assumption|refine Below.drew ?_|refine qa1 ?_ _|refine Below.alloc ?_ (by first|omega|simp <;> omega) _|refine Below.setCell ?_ (by first|omega|simp <;> omega) _))⟩
 obtain⟨rfl,rfl,hb5⟩:=hcut;obtain⟨w5',hw5'⟩:∃x,x=wc:=⟨_,rfl⟩;subst hw5';have R0:=qac hb5 hl0 HR0.out;have R1:=qac hb5 hl1 HR1.out;have HRG:=hid (show w5'.rangeAt q 0 qey from λj v hv=>(hb5.cell (p:=⟨q,0+j,none⟩) hz5).trans (HRG.out j v hv));have HW5:=hid (HW5.out.below hb5);have HB5:=hid (HB5.out.trans (hb5.mono HB5.out.size));have HLO5:=hid (show lo<=w5'.heap.size by have:=hb5.size;have:=HLO5.out;omega);have hz5:q<w5'.heap.size:=by have:=hb5.size;omega
 clear hl0 hl1 HR0 HR1 k5 hb5;have hl0:=qa0 R0;have hl1:=qa0 R1;have HR1:=hid R1;have k5:w5'.cell? ⟨w.heap.size,5,none⟩=some (.int .i64 (k:Int)):=by rw[<-HPH.out];exact cell_of_row w5' _ 5 _ _ _ R0
 have hbl:=HW5.out.box.lt;clear R0 R1;go_upto_region 4 with fail;go_cut [45] (λv45 wx=>v45=.bool false/\wx=w5')
 case first =>
  rcases HKK.out with⟨q1,q2⟩|⟨q1,q2,q3,q4⟩
  · have q1n:(!(f.call.kind==4))=true:=by rw[q1];rfl
    have q2n:(!(f.call.kind==5))=false:=by rw[q2];rfl
    go_wp2_with fail;go_meet;exact⟨rfl,rfl⟩
  · have q1n:(!(f.call.kind==4))=false:=by rw[q1];rfl
    have q2n:(!(f.call.kind==5))=true:=by rw[q2];rfl
    go_wp2_with fail;go_meet;exact⟨rfl,rfl⟩
 obtain⟨rfl,hwc⟩:=hcut;rw[hwc];clear hwc;go_upto_region 6 with fail;rcases HKK.out with⟨q1,q2⟩|⟨q1,q2,q3,q4⟩
 all_goals
  go_upto_region 8 with fail;go_cut [] (λwx=>∃M' f' d' g',R f1 d1 M' f' d'/\WSt g' wx lo a P M' b t 287 f' d'/\ExtB lo b g g' w5' wx)
  case first =>
   rcases k with _|_|_|_|_|_|_|k
   · have k5':w5'.cell? ⟨w.heap.size,5,none⟩=some (.int .i64 0):=k5
     have kq:w5'.cell? ⟨q,0,none⟩=some (.func (.func (tlN 0)) #[] #[]):=by have:=HRG.out 0 _ rfl;rw[Nat.zero_add]at this;exact this
     have TP:=hid (HHP.out g w5' b lo f1 d1 HSAME.out HW5.out HLO5.out);clear k5;go_wp2_with fail;refine TP.out.mono ?_;rintro r w6⟨rfl,M',f',d',hr,g',h6,e6⟩;have HR6:=hid hr;have H6:=hid h6;have HE6:=hid e6;clear hr h6 e6 TP;go_wp2_with fail;go_meet;exact⟨M',f',d',g',HR6.out,H6.out,HE6.out⟩
   · have k5':w5'.cell? ⟨w.heap.size,5,none⟩=some (.int .i64 1):=k5
     have kq:w5'.cell? ⟨q,1,none⟩=some (.func (.func (tlN 1)) #[] #[]):=by have:=HRG.out 1 _ rfl;rw[Nat.zero_add]at this;exact this
     have TP:=hid (HHP.out g w5' b lo f1 d1 HSAME.out HW5.out HLO5.out);clear k5;go_wp2_with fail;refine TP.out.mono ?_;rintro r w6⟨rfl,M',f',d',hr,g',h6,e6⟩;have HR6:=hid hr;have H6:=hid h6;have HE6:=hid e6;clear hr h6 e6 TP;go_wp2_with fail;go_meet;exact⟨M',f',d',g',HR6.out,H6.out,HE6.out⟩
   · have k5':w5'.cell? ⟨w.heap.size,5,none⟩=some (.int .i64 2):=k5
     have kq:w5'.cell? ⟨q,2,none⟩=some (.func (.func (tlN 2)) #[] #[]):=by have:=HRG.out 2 _ rfl;rw[Nat.zero_add]at this;exact this
     have TP:=hid (HHP.out g w5' b lo f1 d1 HSAME.out HW5.out HLO5.out);clear k5;go_wp2_with fail;refine TP.out.mono ?_;rintro r w6⟨rfl,M',f',d',hr,g',h6,e6⟩;have HR6:=hid hr;have H6:=hid h6;have HE6:=hid e6;clear hr h6 e6 TP;go_wp2_with fail;go_meet;exact⟨M',f',d',g',HR6.out,H6.out,HE6.out⟩
   · have k5':w5'.cell? ⟨w.heap.size,5,none⟩=some (.int .i64 3):=k5
     have kq:w5'.cell? ⟨q,3,none⟩=some (.func (.func (tlN 3)) #[] #[]):=by have:=HRG.out 3 _ rfl;rw[Nat.zero_add]at this;exact this
     have TP:=hid (HHP.out g w5' b lo f1 d1 HSAME.out HW5.out HLO5.out);clear k5;go_wp2_with fail;refine TP.out.mono ?_;rintro r w6⟨rfl,M',f',d',hr,g',h6,e6⟩;have HR6:=hid hr;have H6:=hid h6;have HE6:=hid e6;clear hr h6 e6 TP;go_wp2_with fail;go_meet;exact⟨M',f',d',g',HR6.out,H6.out,HE6.out⟩
   · have k5':w5'.cell? ⟨w.heap.size,5,none⟩=some (.int .i64 4):=k5
     have kq:w5'.cell? ⟨q,4,none⟩=some (.func (.func (tlN 4)) #[] #[]):=by have:=HRG.out 4 _ rfl;rw[Nat.zero_add]at this;exact this
     have TP:=hid (HHP.out g w5' b lo f1 d1 HSAME.out HW5.out HLO5.out);clear k5;go_wp2_with fail;refine TP.out.mono ?_;rintro r w6⟨rfl,M',f',d',hr,g',h6,e6⟩;have HR6:=hid hr;have H6:=hid h6;have HE6:=hid e6;clear hr h6 e6 TP;go_wp2_with fail;go_meet;exact⟨M',f',d',g',HR6.out,H6.out,HE6.out⟩
   · have k5':w5'.cell? ⟨w.heap.size,5,none⟩=some (.int .i64 5):=k5
     have kq:w5'.cell? ⟨q,5,none⟩=some (.func (.func (tlN 5)) #[] #[]):=by have:=HRG.out 5 _ rfl;rw[Nat.zero_add]at this;exact this
     have TP:=hid (HHP.out g w5' b lo f1 d1 HSAME.out HW5.out HLO5.out);clear k5;go_wp2_with fail;refine TP.out.mono ?_;rintro r w6⟨rfl,M',f',d',hr,g',h6,e6⟩;have HR6:=hid hr;have H6:=hid h6;have HE6:=hid e6;clear hr h6 e6 TP;go_wp2_with fail;go_meet;exact⟨M',f',d',g',HR6.out,H6.out,HE6.out⟩
   · have k5':w5'.cell? ⟨w.heap.size,5,none⟩=some (.int .i64 6):=k5
     have kq:w5'.cell? ⟨q,6,none⟩=some (.func (.func (tlN 6)) #[] #[]):=by have:=HRG.out 6 _ rfl;rw[Nat.zero_add]at this;exact this
     have TP:=hid (HHP.out g w5' b lo f1 d1 HSAME.out HW5.out HLO5.out);clear k5;go_wp2_with fail;refine TP.out.mono ?_;rintro r w6⟨rfl,M',f',d',hr,g',h6,e6⟩;have HR6:=hid hr;have H6:=hid h6;have HE6:=hid e6;clear hr h6 e6 TP;go_wp2_with fail;go_meet;exact⟨M',f',d',g',HR6.out,H6.out,HE6.out⟩
   · omega
  obtain⟨M',f',d',g',hr,h6,e6⟩:=hcut;obtain⟨w6,hw6⟩:∃x,x=wc:=⟨_,rfl⟩;subst hw6;have hb6:=e6.only.size;have hr1:w6.heap[w.heap.size+1]? =w5'.heap[w.heap.size+1]? :=e6.only.block _ hl1 (by have:=H.out.far (w.heap.size+1) (by omega);have:=HLO.out;have:=HNE.out;omega);have hg1:g' (w.heap.size+1)=0:=(e6.old _ hl1).trans (H.out.far _ (by omega));have R1:=hr1.trans HR1.out;have TH:=hid (qai R1 HC.out);have HRA:=hid h6.box.range;have HALF:=hid (all_oneCell_toArray f'.enc_one);obtain⟨hcall,hdgr⟩:=HHR.out _ _ _ _ _ hr;have F6:FrAt (λx=>g' x=0/\w.heap.size+2<=x) w6 f' d':=qjh h6 _ (by have:=HLO.out;omega) (by rw[hcall,hdgr];exact HGL.out);obtain⟨w7,hw7⟩:∃w7,w7=w6.setCells (w.heap.size+1) 0 f'.enc.toArray.toList:=⟨_,rfl⟩;have HW7:=hid hw7;have HRG7:Hid (w7.rangeAt (w.heap.size+1) 0 f'.enc):=hid (by rw[hw7];exact World.rangeAt_setCells_same w6 (w.heap.size+1) 0 f'.enc TH.out);have HA7:Hid (qa6 g' w7 a P M'):=hid (by rw[hw7];exact h6.ar.sets0 hg1 0 _);have HE6:Ext g g' w w6:=ExtB.ext (Ext.below HB5.out) e6 (by have:=HNE.out;omega) (by have:=HLO.out;omega);have HE7:Hid (Ext g g' w w7):=hid (ExtB.ext (lo:=w.heap.size) (b:=w.heap.size+1) HE6 (by rw[hw7];exact ExtB.sets 0 _) (by omega) (Nat.le_refl _));have HF7:Hid (FrAt (λx=>g' x=0/\w.heap.size<=x) w7 f' d'):=hid ((F6.keep (w':=w7) (by rw[hw7,(qam _ _ _ _).2.2.2];exact Nat.le_refl _) (λx _ hx=>by rw[hw7];exact qaa _ _ _ _ _ (by omega))).mono λx hx=>⟨hx.1,by omega⟩);have HR6:=hid hr;clear hw7 HE6 F6 hcall hdgr R1 hr1 hg1 hr h6 e6 hb6 dd3 dd4 k5 HRG;go_wp2_with(first|(refine wpList_load_mid rfl 89 (.tmp 73) rfl b 2 (by first|rfl|simp[Act.eval]) f'.enc _ HRA.out underlying89 rfl qaf ?_)|(refine wpList_store_mid rfl 89 (.tmp 6) (.tmp 74) rfl (w.heap.size+1) 0 f'.enc.toArray (by first|rfl|simp[Act.eval]) (by first|rfl|simp[Act.eval]) TH.out qaf HALF.out ?_;rw[<-HW7.out]));refine bodyPost_ret (v:=f'.v) ?_ rfl ⟨f1,d1,M',f',d',g',rfl,HSAME.out,HR6.out,HA7.out,HE7.out,HF7.out⟩;exact qah results110 _ _ (w.heap.size+1) _ _ rfl HRG7.out underlying89 rfl qaf
end
end
end Go.Proofs.YtecikkjbnkhhkaaGreat
