/- A part of the walk. -/
import Derived.Test.YtecikkjbnkhhkaaGreatP02
import Derived.BigQuiet
import Derived.WalkLawsBesides
import Derived.WalkSpells
namespace Go.Proofs.YtecikkjbnkhhkaaGreat
open _root_.Go.Proofs.Tryz
set_option maxHeartbeats 4000000
open Go.RowKit
structure qa7 where
 kind:Int
 key:ByteArray
 val:ByteArray
 tx:ByteArray
 gA:Option Addr
 gn:Nat
 gc:Nat
 deriving Inhabited
def qa7.enc(c:qa7):List Value:=[.int .i64 c.kind,.string c.key,.string c.val,.string c.tx,.slice c.gA c.gn c.gc]
theorem qa7.enc_len(c:qa7):c.enc.length=5:=rfl
theorem Arr.call0{w:World}{B:Nat}{A:Option Addr}{l:List qa7}(h:Arr qa7.enc 5 w B A l){i:Nat}(hi:i<l.length):
 ∃b off,A=some ⟨b,off,none⟩/\b<B/\w.cell? ⟨b,off+i*5,none⟩=some (.int .i64 l[i].kind)/\w.cell? ⟨b,off+i*5+1,none⟩=some (.string l[i].key) /\
  w.cell? ⟨b,off+i*5+2,none⟩=some (.string l[i].val)/\w.cell? ⟨b,off+i*5+3,none⟩=some (.string l[i].tx)/\w.cell? ⟨b,off+i*5+4,none⟩=some (.slice l[i].gA l[i].gn l[i].gc):=by
 rcases h with h|⟨b,off,hA,hB,hc⟩
 · subst h;simp at hi
 · exact⟨b,off,hA,hB,hc i hi 0 _ rfl,hc i hi 1 _ rfl,hc i hi 2 _ rfl,hc i hi 3 _ rfl,hc i hi 4 _ rfl⟩
def qcs(k:Int):Bool:=k==1||k==2||k==3
def qcl(k:Int):Bool:=k==2||k==3||k==4
theorem qb3(k:Int)(w:World):Calls prog 358 #[.int .i64 k] w λe w'=>e=.returned (.bool (qcs k))/\w=w':=by
 go_enter func358,ntmps358;go_wp2;all_goals(go_ret;exact⟨qc9 (by simp[qcs, *]),rfl⟩)
theorem qds(k:Int)(w:World):Calls prog 359 #[.int .i64 k] w λe w'=>e=.returned (.bool (qcl k))/\w=w':=by
 go_enter func359,ntmps359;go_wp2;all_goals(go_ret;exact⟨qc9 (by simp[qcl, *]),rfl⟩)
def qc2(c:qa7):Bool:=
 if c.kind=1\/c.kind=3 then decide ((16:Int)<(c.key.size:Int))else if c.kind=2 then(decide ((16:Int)<(c.key.size:Int))||decide ((400:Int)<(c.val.size:Int)))else if c.kind=4 then decide ((400:Int)<(c.val.size:Int))
 else if c.kind=6 then(decide ((16:Int)<(c.key.size:Int))||decide ((16:Int)<(c.tx.size:Int)))else false
theorem qhl(c:qa7)(h7:c.kind≠7)(w:World):Calls prog 331 #[.agg #[.int .i64 c.kind,.string c.key,.string c.val,.string c.tx,.slice c.gA c.gn c.gc]] w λe w'=>e=.returned (.bool (qc2 c))/\Below w.heap.size w w':=by
 obtain⟨k,key,val,tx,gA,gn,gc⟩:=c;simp only at h7 ⊢;go_enter func331,ntmps331;go_wp2;all_goals(go_ret;exact⟨qc9 (by simp_all [qc2]),(by repeat(first|exact Below.refl _ _|assumption|refine Below.drew ?_|refine qa1 ?_ _|refine Below.alloc ?_ (by first|omega|simp <;> omega) _|refine Below.setCell ?_ (by first|omega|simp <;> omega) _))⟩)
theorem qzs{l:List qa7}{k:Nat}(hk:k<l.length){p:qa7->Bool}(h:p l[k]=true):l.any p=true:=
 List.any_eq_true.2 ⟨_,List.getElem_mem hk,h⟩
theorem qB8{l:List qa7}{k:Nat}(hk:l.length<=k){p:qa7->Bool}(h:∀i,(hi:i<l.length)->i<k->p l[i]=false):l.any p=false:=by
 rw[Bool.eq_false_iff];intro hc;obtain⟨x,hx,hp⟩:=List.any_eq_true.1 hc;obtain⟨i,hi,rfl⟩:=List.mem_iff_getElem.1 hx;rw[h i hi (by omega)]at hp;cases hp
def qi3(p:qa7->Bool)(l:List qa7)(k:Nat):Prop:=∀i,(hi:i<l.length)->i<k->p l[i]=false
theorem qi3.zero(p:qa7->Bool)(l:List qa7):qi3 p l 0:=λ_ _ h=>absurd h (by omega)
theorem qi3.succ{p:qa7->Bool}{l:List qa7}{k:Nat}(hk:k<l.length)(h:qi3 p l k)(h1:p l[k]=false):qi3 p l (k+1):=by
 intro i hi hlt;rcases(by omega:i<k\/i=k)with h'|rfl
 · exact h i hi h'
 · exact h1
def qzv(b:Bool)(w:World)(e:Ending)(w':World):Prop:=∃r:Int,e=.returned (.int .i64 r)/\decide (0<=r)=b/\Below w.heap.size w w'
theorem qsw(l:List qa7)(A:Option Addr)(c:Nat)(w:World)(hA:Arr qa7.enc 5 w w.heap.size A l)(hc:l.length<=c)(hm:c<=9223372036854775807)(hf:∀x∈l,x.kind≠7):
 Calls prog 373 #[.slice A l.length c,.func (.func 331) #[] #[]] w (qzv (l.any qc2) w):=by
 have HF:=hid hf;clear hf;go_enter func373,ntmps373;go_wp2;go_loopw [8] (λi wr=>∃k:Nat,k<=l.length/\i=.int .i64 k/\Below w.heap.size w wr/\qi3 qc2 l k) (λi _=>l.length-(intOf i).toNat)
 case atStart=>exact⟨0,Nat.zero_le _,rfl,Below.refl _ _,qi3.zero _ _⟩
 case round =>
  obtain⟨k,hk,rfl,hb,hn⟩:=hrel;have hbs:=hb.size;by_cases hlt:k<l.length
  · obtain⟨b,off,rfl,hB,c0,c1,c2,c3,c4⟩:=(hA.below hb).call0 hlt
    have h7:l[k].kind≠7:=HF.out _ (List.getElem_mem hlt);have H7:=hid h7;clear h7;cases hl:qc2 l[k]with
    |true =>
     go_wp2_with(go_at_call 331;refine(qhl l[k] H7.out _).mono ?_;rintro e w'⟨rfl,hb4⟩;rw[hl]);go_ret;exact⟨_,rfl,by rw[qzs hlt hl];simp,hb.trans (hb4.mono hbs)⟩
    |false =>
     go_wp2_with(go_at_call 331;refine(qhl l[k] H7.out _).mono ?_;rintro e w'⟨rfl,hb4⟩;rw[hl]);go_roundw
     case rel=>exact⟨k+1,by omega,by go_num,hb.trans (hb4.mono hbs),hn.succ hlt hl⟩
     case measure=>simp[intOf];omega
  · go_wp2
    go_ret;exact⟨_,rfl,by rw[qB8 (by omega) hn];rfl,hb⟩
theorem qm4(l:List qa7)(A:Option Addr)(c:Nat)(w:World)(hA:Arr qa7.enc 5 w w.heap.size A l)(hc:l.length<=c)(hm:c<=9223372036854775807)(hf:∀x∈l,x.kind≠7):
 Calls prog 360 #[.slice A l.length c,.func (.func 331) #[] #[]] w λe w'=>e=.returned (.bool (l.any qc2))/\Below w.heap.size w w':=by
 have HF:=hid hf;clear hf;go_enter func360,ntmps360;go_wp2_with(go_at_call 373;refine(qsw l _ _ _ hA hc hm HF.out).mono ?_;rintro e w'⟨r,rfl,hr,hb⟩);go_ret;exact⟨qc9 rfl,hb⟩
def qie(c:qa7)(g:List qa7):Bool:=if c.kind=7 then g.any qc2 else qc2 c
theorem qov(c:qa7)(g:List qa7)(w:World)(hA:Arr qa7.enc 5 w w.heap.size c.gA g)(hn:c.gn=g.length)(hc:g.length<=c.gc)(hm:c.gc<=9223372036854775807)(hf:c.kind=7->∀x∈g,x.kind≠7):
 Calls prog 331 #[.agg #[.int .i64 c.kind,.string c.key,.string c.val,.string c.tx,.slice c.gA c.gn c.gc]] w λe w'=>e=.returned (.bool (qie c g))/\Below w.heap.size w w':=by
 by_cases h7:c.kind=7
 · have HF:=hid (hf h7)
   have e:qie c g=g.any qc2:=by simp[qie,h7]
   obtain⟨k,key,val,tx,gA,gn,gc⟩:=c;simp only at h7 hA hn hc hm ⊢;subst h7;subst hn;rw[e];clear hf e;go_enter func331,ntmps331;go_wp2_with(go_at_call 360;refine(qm4 g _ _ _ ((hA.below ((Below.refl _ w).alloc (Nat.le_refl _) _)).more (by simp)) hc hm HF.out).mono ?_;rintro e w'⟨rfl,hb⟩);go_ret;exact⟨rfl,((Below.refl _ w).alloc (Nat.le_refl _) _).trans (hb.mono (by simp))⟩
 · have e:qie c g=qc2 c:=by simp[qie,h7]
   rw[e];exact qhl c h7 w
open Go.RowKit
def qdt(x:qa7):Bool:= !qcl x.kind||(qcs x.kind&&x.key.toList.isEmpty)
def clash(x y:qa7):Bool:=qcs x.kind&&qcs y.kind&&(x.key.toList==y.key.toList)
def qd8(g:List qa7):Bool:=(List.range g.length).all λi=> !qdt (g.getD i default)&&(List.range i).all λj=> !clash (g.getD i default) (g.getD j default)
def okTo(g:List qa7)(k:Nat):Prop:=∀i,(hi:i<g.length)->i<k->qdt g[i]=false/\∀j,(hj:j<i)->clash g[i] (g[j]'(by omega))=false
def okAt(g:List qa7)(k m:Nat):Prop:=∀j,(hk:k<g.length)->(hj:j<k)->j<m->clash g[k] (g[j]'(by omega))=false
theorem qs5(g:List qa7):okTo g 0:=λ_ _ h=>absurd h (by omega)
theorem qs6(g:List qa7)(k:Nat):okAt g k 0:=λ_ _ _ h=>absurd h (by omega)
theorem qlh{g:List qa7}{k m:Nat}(hk:k<g.length)(hm:m<k)(h:okAt g k m)(h1:clash g[k] (g[m]'(by omega))=false):okAt g k (m+1):=by
 intro j _ hj hlt;rcases(by omega:j<m\/j=m)with hj'|rfl
 · exact h j hk hj hj'
 · exact h1
theorem qlf{g:List qa7}{k:Nat}(hk:k<g.length)(h:okTo g k)(h0:qdt g[k]=false)(h1:okAt g k k):okTo g (k+1):=by
 intro i hi hlt;rcases(by omega:i<k\/i=k)with hi'|rfl
 · exact h i hi hi'
 · exact⟨h0,λj hj=>h1 j hi hj hj⟩
theorem qnl{g:List qa7}{k:Nat}(hk:g.length<=k)(h:okTo g k):qd8 g=true:=by
 simp only[qd8,List.all_eq_true,List.mem_range,Bool.and_eq_true,Bool.not_eq_true'];intro i hi;obtain⟨h1,h2⟩:=h i hi (by omega);rw[qhr hi];exact⟨h1,λj hj=>by rw[qhr (show j<g.length by omega)];exact h2 j hj⟩
theorem qev{g:List qa7}{k:Nat}(hk:k<g.length)(h:qdt g[k]=true):qd8 g=false:=by
 rw[Bool.eq_false_iff];intro hc;simp only[qd8,List.all_eq_true,List.mem_range,Bool.and_eq_true,Bool.not_eq_true']at hc;have:=(hc k hk).1;rw[qhr hk,h]at this;cases this
theorem qkb{g:List qa7}{k m:Nat}(hk:k<g.length)(hm:m<k)(h:clash g[k] (g[m]'(by omega))=true):qd8 g=false:=by
 rw[Bool.eq_false_iff];intro hc;simp only[qd8,List.all_eq_true,List.mem_range,Bool.and_eq_true,Bool.not_eq_true']at hc;have:=(hc k hk).2 m hm;rw[qhr hk,qhr (show m<g.length by omega),h]at this;cases this
theorem qn1(g:List qa7)(A:Option Addr)(gc:Nat)(key val tx:ByteArray)(w:World)(hA:Arr qa7.enc 5 w w.heap.size A g)(hc:g.length<=gc)(_hm:gc<=9223372036854775807)(h1:1<=g.length)(h3:g.length<=3):
 Calls prog 330 #[.agg #[.int .i64 7,.string key,.string val,.string tx,.slice A g.length gc]] w λe w'=>e=.returned (.bool (qd8 g))/\Below w.heap.size w w':=by
 have hk7:qcs 7=false:=by decide +kernel
 have h1':((g.length:Int)<1)=False:=by simp;omega
 have h3':((3:Int)<(g.length:Int))=False:=by simp;omega
 go_enter func330,ntmps330;go_wp2_with(go_at_call 358;refine(qb3 _ _).mono ?_;rintro e w'⟨rfl,rfl⟩;rw[hk7]);clear h1' h3' hk7;go_loopw [41] (λi wr=>∃k:Nat,k<=g.length/\i=.int .i64 k/\Below (w.heap.size+1) (w.alloc (.cells #[.int .i64 7,.string key,.string val,.string tx,.slice A g.length gc] 40)) wr/\okTo g k) (λi _=>g.length-(intOf i).toNat)
 case atStart=>exact⟨0,Nat.zero_le _,rfl,Below.refl _ _,qs5 _⟩
 case round =>
  obtain⟨k,hk,rfl,hb,hok⟩:=hrel;have hbw:Below w.heap.size w wr:=((Below.refl _ w).alloc (Nat.le_refl _) _).trans (hb.mono (by simp));have hbs:=qf3 hb;by_cases hlt:k<g.length
  · obtain⟨b,off,rfl,hB,c0,c1,c2,c3,c4⟩:=(hA.below hbw).call0 hlt
    have e4:wr.cell? ⟨w.heap.size,4,none⟩=some (.slice (some ⟨b,off,none⟩) g.length gc):=qgq hb 4;obtain⟨wo,rfl⟩:∃wo:World,wo=wr:=⟨_,rfl⟩;cases hbad:qdt g[k]with
    |true =>
     cases hgr:qcl g[k].kind with
     |false =>
      go_wp2_with(first|(go_at_call 358;refine(qb3 _ _).mono ?_;rintro e w'⟨rfl,rfl⟩)|(go_at_call 359;refine(qds _ _).mono ?_;rintro e w'⟨rfl,rfl⟩;rw[hgr]));go_ret;exact⟨qc9 (qev hlt hbad).symm,(by repeat(first|exact Below.refl _ _|assumption|refine Below.drew ?_|refine qa1 ?_ _|refine Below.alloc ?_ (by first|omega|simp <;> omega) _|refine Below.setCell ?_ (by first|omega|simp <;> omega) _))⟩
     |true =>
      obtain⟨hky,hke⟩:qcs g[k].kind=true/\g[k].key.toList.isEmpty=true:=by simpa[qdt,hgr]using hbad
      go_wp2_with(first|(go_at_call 358;refine(qb3 _ _).mono ?_;rintro e w'⟨rfl,rfl⟩;rw[hky])|(go_at_call 359;refine(qds _ _).mono ?_;rintro e w'⟨rfl,rfl⟩;rw[hgr]));go_ret;exact⟨qc9 (qev hlt hbad).symm,(by repeat(first|exact Below.refl _ _|assumption|refine Below.drew ?_|refine qa1 ?_ _|refine Below.alloc ?_ (by first|omega|simp <;> omega) _|refine Below.setCell ?_ (by first|omega|simp <;> omega) _))⟩
    |false =>
     have hgr:qcl g[k].kind=true:=by
      cases h:qcl g[k].kind with
      |true=>rfl
      |false=>simp[qdt,h]at hbad
     have hke:qcs g[k].kind=true->g[k].key.toList.isEmpty=false:=by
      intro h;simpa[qdt,h,hgr]using hbad
     have HB:=hid hbad;clear hbad;cases hky:qcs g[k].kind with
     |false =>
      clear hke;have hcl:∀j,(hj:j<k)->clash g[k] (g[j]'(by omega))=false:=λj hj=>by simp[clash,hky]
      have HC:=hid hcl;clear hcl;go_wp2_with(first|(go_at_call 358;refine(qb3 _ _).mono ?_;rintro e w'⟨rfl,rfl⟩;rw[hky])|(go_at_call 359;refine(qds _ _).mono ?_;rintro e w'⟨rfl,rfl⟩;rw[hgr]));go_loopw [65] (λi wr=>∃m:Nat,m<=k/\i=.int .i64 m/\Below (wo.heap.size+1) (wo.alloc (.cells #[.int .i64 g[k].kind,.string g[k].key,.string g[k].val,.string g[k].tx,.slice g[k].gA g[k].gn g[k].gc] 40)) wr) (λi _=>k-(intOf i).toNat)
      case atStart=>exact⟨0,Nat.zero_le _,rfl,Below.refl _ _⟩
      case round =>
       obtain⟨m,hmk,rfl,hb2⟩:=hrel;have hb3:Below (w.heap.size+1) (w.alloc (.cells #[.int .i64 7,.string key,.string val,.string tx,.slice (some ⟨b,off,none⟩) g.length gc] 40)) wr:=(hb.alloc (by omega) _).trans (hb2.mono (by omega));have hb4:Below w.heap.size w wr:=((Below.refl _ w).alloc (Nat.le_refl _) _).trans (hb3.mono (by simp));have hz2:=qf3 hb2;by_cases hlt2:m<k
       · obtain⟨b',off',hbo,hB',d0,d1,d2,d3,d4⟩:=(hA.below hb4).call0 (show m<g.length by omega)
         have f0:wr.cell? ⟨wo.heap.size,0,none⟩=some (.int .i64 g[k].kind):=qgq hb2 0;obtain⟨rfl,rfl⟩:b=b'/\off=off':=by simpa using hbo
         clear hbo;go_wp2_with(go_at_call 358;refine(qb3 _ _).mono ?_;rintro e w'⟨rfl,rfl⟩;rw[hky]);go_roundw
         case rel=>exact⟨m+1,by omega,by go_num,hb2.alloc (by omega) _⟩
         case measure=>simp[intOf];omega
       · go_wp2
         go_roundw
         case rel=>exact⟨k+1,by omega,by go_num,hb3,qlf hlt hok HB.out (λj _ hj _=>HC.out j hj)⟩
         case measure=>simp[intOf];omega
     |true =>
      have hke:=hke hky;go_wp2_with(first|(go_at_call 358;refine(qb3 _ _).mono ?_;rintro e w'⟨rfl,rfl⟩;rw[hky])|(go_at_call 359;refine(qds _ _).mono ?_;rintro e w'⟨rfl,rfl⟩;rw[hgr]));clear hke;go_loopw [65] (λi wr=>∃m:Nat,m<=k/\i=.int .i64 m/\Below (wo.heap.size+1) (wo.alloc (.cells #[.int .i64 g[k].kind,.string g[k].key,.string g[k].val,.string g[k].tx,.slice g[k].gA g[k].gn g[k].gc] 40)) wr/\okAt g k m) (λi _=>k-(intOf i).toNat)
      case atStart=>exact⟨0,Nat.zero_le _,rfl,Below.refl _ _,qs6 _ _⟩
      case round =>
       obtain⟨m,hmk,rfl,hb2,hat⟩:=hrel;have hb3:Below (w.heap.size+1) (w.alloc (.cells #[.int .i64 7,.string key,.string val,.string tx,.slice (some ⟨b,off,none⟩) g.length gc] 40)) wr:=(hb.alloc (by omega) _).trans (hb2.mono (by omega));have hb4:Below w.heap.size w wr:=((Below.refl _ w).alloc (Nat.le_refl _) _).trans (hb3.mono (by simp));have hz2:=qf3 hb2;by_cases hlt2:m<k
       · obtain⟨b',off',hbo,hB',d0,d1,d2,d3,d4⟩:=(hA.below hb4).call0 (show m<g.length by omega)
         have f0:wr.cell? ⟨wo.heap.size,0,none⟩=some (.int .i64 g[k].kind):=qgq hb2 0;have f1:wr.cell? ⟨wo.heap.size,1,none⟩=some (.string g[k].key):=qgq hb2 1;obtain⟨rfl,rfl⟩:b=b'/\off=off':=by simpa using hbo
         clear hbo;cases hkm:qcs g[m].kind with
         |false =>
          have hcl:clash g[k] g[m]=false:=by simp[clash,hkm]
          go_wp2_with(go_at_call 358;refine(qb3 _ _).mono ?_;rintro e w'⟨rfl,rfl⟩;first|rw[hky]|rw[hkm]);go_roundw
          case rel=>exact⟨m+1,by omega,by go_num,hb2.alloc (by omega) _,qlh hlt hlt2 hat hcl⟩
          case measure=>simp[intOf];omega
         |true =>
          cases hke:(g[k].key.toList==g[m].key.toList)with
          |false =>
           have hcl:clash g[k] g[m]=false:=by simp[clash,hke]
           go_wp2_with(go_at_call 358;refine(qb3 _ _).mono ?_;rintro e w'⟨rfl,rfl⟩;first|rw[hky]|rw[hkm]);go_roundw
           case rel=>exact⟨m+1,by omega,by go_num,hb2.alloc (by omega) _,qlh hlt hlt2 hat hcl⟩
           case measure=>simp[intOf];omega
          |true =>
           have hcl:clash g[k] g[m]=true:=by rw[clash,hky,hkm,hke];rfl
           go_wp2_with(go_at_call 358;refine(qb3 _ _).mono ?_;rintro e w'⟨rfl,rfl⟩;first|rw[hky]|rw[hkm]);go_ret;exact⟨qc9 (qkb hlt hlt2 hcl).symm,(by repeat(first|exact Below.refl _ _|assumption|refine Below.drew ?_|refine qa1 ?_ _|refine Below.alloc ?_ (by first|omega|simp <;> omega) _|refine Below.setCell ?_ (by first|omega|simp <;> omega) _))⟩
       · go_wp2
         go_roundw
         case rel =>
          obtain rfl:m=k:=by omega
          exact⟨m+1,by omega,by go_num,hb3,qlf hlt hok HB.out hat⟩
         case measure=>simp[intOf];omega
  · go_wp2
    go_ret;exact⟨qc9 (qnl (by omega) hok).symm,hbw⟩
def qbl(c:qa7)(g:List qa7):Bool:=
 if c.kind<1\/8<c.kind then false else if (qcs c.kind&&c.key.toList.isEmpty)=true then false else if c.kind≠7 then true else if g.length<1\/3<g.length then false else qd8 g
structure qbr(w:World)(B:Nat)(c:qa7)(g:List qa7):Prop where
 arr:Arr qa7.enc 5 w B c.gA g
 len:c.gn=g.length
 cap:g.length<=c.gc
 max:c.gc<=9223372036854775807
theorem qbr.below{w w':World}{B:Nat}{c:qa7}{g:List qa7}(h:qbr w B c g)(hb:Below B w w'):qbr w' B c g:=⟨h.arr.below hb,h.len,h.cap,h.max⟩
theorem qbr.more{w:World}{B B':Nat}{c:qa7}{g:List qa7}(h:qbr w B c g)(hB:B<=B'):qbr w B' c g:=⟨h.arr.more hB,h.len,h.cap,h.max⟩
theorem qhb(c:qa7)(g:List qa7)(w:World)(h:qbr w w.heap.size c g):
 Calls prog 330 #[.agg #[.int .i64 c.kind,.string c.key,.string c.val,.string c.tx,.slice c.gA c.gn c.gc]] w λe w'=>e=.returned (.bool (qbl c g))/\Below w.heap.size w w':=by
 obtain⟨hA,hn,hc,hm⟩:=h;obtain⟨k,key,val,tx,gA,gn,gc⟩:=c;simp only at hA hn hc hm ⊢;subst hn;by_cases h1:k<1
 · have e:qbl ⟨k,key,val,tx,gA,g.length,gc⟩ g=false:=by simp[qbl,h1]
   rw[e];clear hA hc hm e;go_enter func330,ntmps330;go_wp2_with(go_at_call 358;refine(qb3 _ _).mono ?_;rintro e w'⟨rfl,rfl⟩);go_ret;exact⟨rfl,(by repeat(first|exact Below.refl _ _|assumption|refine Below.drew ?_|refine qa1 ?_ _|refine Below.alloc ?_ (by first|omega|simp <;> omega) _|refine Below.setCell ?_ (by first|omega|simp <;> omega) _))⟩
 by_cases h8:8<k
 · have e:qbl ⟨k,key,val,tx,gA,g.length,gc⟩ g=false:=by simp[qbl,h8]
   rw[e];clear hA hc hm e;go_enter func330,ntmps330;go_wp2_with(go_at_call 358;refine(qb3 _ _).mono ?_;rintro e w'⟨rfl,rfl⟩);go_ret;exact⟨rfl,(by repeat(first|exact Below.refl _ _|assumption|refine Below.drew ?_|refine qa1 ?_ _|refine Below.alloc ?_ (by first|omega|simp <;> omega) _|refine Below.setCell ?_ (by first|omega|simp <;> omega) _))⟩
 by_cases h7:k=7
 · subst h7
   by_cases hg1:g.length<1
   · have e:qbl ⟨7,key,val,tx,gA,g.length,gc⟩ g=false:=by simp[qbl,hg1]
     rw[e];clear e;have hk7:qcs 7=false:=by decide +kernel
     have hg1':(g.length:Int)<1:=by omega
     go_enter func330,ntmps330;go_wp2_with(go_at_call 358;refine(qb3 _ _).mono ?_;rintro e w'⟨rfl,rfl⟩;rw[hk7]);go_ret;exact⟨rfl,(by repeat(first|exact Below.refl _ _|assumption|refine Below.drew ?_|refine qa1 ?_ _|refine Below.alloc ?_ (by first|omega|simp <;> omega) _|refine Below.setCell ?_ (by first|omega|simp <;> omega) _))⟩
   by_cases hg3:3<g.length
   · have e:qbl ⟨7,key,val,tx,gA,g.length,gc⟩ g=false:=by simp[qbl,hg3]
     rw[e];clear e;have hk7:qcs 7=false:=by decide +kernel
     have hg3':(3:Int)<(g.length:Int):=by omega
     go_enter func330,ntmps330;go_wp2_with(go_at_call 358;refine(qb3 _ _).mono ?_;rintro e w'⟨rfl,rfl⟩;rw[hk7]);go_ret;exact⟨rfl,(by repeat(first|exact Below.refl _ _|assumption|refine Below.drew ?_|refine qa1 ?_ _|refine Below.alloc ?_ (by first|omega|simp <;> omega) _|refine Below.setCell ?_ (by first|omega|simp <;> omega) _))⟩
   have hk7:qcs 7=false:=by decide +kernel
   have e:qbl ⟨7,key,val,tx,gA,g.length,gc⟩ g=qd8 g:=by simp[qbl,hg1,hg3,hk7]
   rw[e];exact qn1 g gA gc key val tx w hA hc hm (by omega) (by omega)
 cases hky:qcs k with
 |false =>
  have e:qbl ⟨k,key,val,tx,gA,g.length,gc⟩ g=true:=by simp[qbl,h1,h8,h7,hky]
  rw[e];clear e hA;have h7':(k==7)=false:=by simpa using h7
  have h7'':(k != 7)=true:=by simpa using h7
  go_enter func330,ntmps330;go_wp2_with(go_at_call 358;refine(qb3 _ _).mono ?_;rintro e w'⟨rfl,rfl⟩;rw[hky]);go_ret;exact⟨rfl,(by repeat(first|exact Below.refl _ _|assumption|refine Below.drew ?_|refine qa1 ?_ _|refine Below.alloc ?_ (by first|omega|simp <;> omega) _|refine Below.setCell ?_ (by first|omega|simp <;> omega) _))⟩
 |true =>
  cases hke:key.toList.isEmpty with
  |true =>
   have e:qbl ⟨k,key,val,tx,gA,g.length,gc⟩ g=false:=by simp[qbl,h1,h8,hky,hke]
   rw[e];clear e hA;go_enter func330,ntmps330;go_wp2_with(go_at_call 358;refine(qb3 _ _).mono ?_;rintro e w'⟨rfl,rfl⟩;rw[hky]);go_ret;exact⟨rfl,(by repeat(first|exact Below.refl _ _|assumption|refine Below.drew ?_|refine qa1 ?_ _|refine Below.alloc ?_ (by first|omega|simp <;> omega) _|refine Below.setCell ?_ (by first|omega|simp <;> omega) _))⟩
  |false =>
   have e:qbl ⟨k,key,val,tx,gA,g.length,gc⟩ g=true:=by simp[qbl,h1,h8,h7,hke]
   rw[e];clear e hA;have h7'':(k != 7)=true:=by simpa using h7
   go_enter func330,ntmps330;go_wp2_with(go_at_call 358;refine(qb3 _ _).mono ?_;rintro e w'⟨rfl,rfl⟩;rw[hky]);go_ret;exact⟨rfl,(by repeat(first|exact Below.refl _ _|assumption|refine Below.drew ?_|refine qa1 ?_ _|refine Below.alloc ?_ (by first|omega|simp <;> omega) _|refine Below.setCell ?_ (by first|omega|simp <;> omega) _))⟩
theorem qls{k:Int}(h:qcl k=true):k≠7:=by
 intro e;subst e;revert h;decide +kernel
theorem qq0{c:qa7}{g:List qa7}(h:qbl c g=true)(h7:c.kind=7):∀x∈g,qcl x.kind=true:=by
 intro x hx;have hok:qd8 g=true:=by
  unfold qbl at h;split at h
  · cases h
  · split at h
    · cases h
    · rw[if_neg (by simp[h7])]at h
      split at h
      · cases h
      · exact h
 obtain⟨i,hi,rfl⟩:=List.mem_iff_getElem.1 hx;cases hg:qcl g[i].kind with
 |true=>rfl
 |false =>
  rw[qev hi (by simp[qdt,hg])]at hok;cases hok
def qe9(c:qa7)(g:List qa7):Int:=if qbl c g=false then 1 else if qie c g=true then 5 else 0
theorem qwi(c:qa7)(g:List qa7)(w:World)(h:qbr w w.heap.size c g):
 Calls prog 295 #[.agg #[.int .i64 c.kind,.string c.key,.string c.val,.string c.tx,.slice c.gA c.gn c.gc]] w λe w'=>e=.returned (.int .i64 (qe9 c g))/\Below w.heap.size w w':=by
 have h1:qbr (w.alloc (.cells #[.int .i64 c.kind,.string c.key,.string c.val,.string c.tx,.slice c.gA c.gn c.gc] 40)) (w.heap.size+1) c g:=(h.below ((Below.refl _ w).alloc (Nat.le_refl _) _)).more (by omega);cases hs:qbl c g with
 |false =>
  have e:qe9 c g=1:=by simp[qe9,hs]
  rw[e];have H1:=hid h1;clear h1 h e;go_enter func295,ntmps295;go_wp2_with(go_at_call 330;refine(qhb c g _ (H1.out.more (by simp))).mono ?_;rintro e w'⟨rfl,hb⟩;rw[hs]);go_ret;exact⟨rfl,((Below.refl _ w).alloc (Nat.le_refl _) _).trans (hb.mono (by simp))⟩
 |true =>
  have hf:c.kind=7->∀x∈g,x.kind≠7:=λh7 x hx=>qls (qq0 hs h7 x hx)
  have HF:=hid hf;have H1:=hid h1;clear h1 h hf;have e:qe9 c g=if qie c g=true then 5 else 0:=by simp[qe9,hs]
  rw[e];clear e;cases hl:qie c g with
  |true =>
   go_enter func295,ntmps295;go_wp2_with(go_at_call 330;refine(qhb c g _ (H1.out.more (by simp))).mono ?_;rintro e w'⟨rfl,hb⟩;rw[hs];have c0:=hb.cell (p:=⟨w.heap.size,0,none⟩) (by simp);have c1:=hb.cell (p:=⟨w.heap.size,1,none⟩) (by simp);have c2:=hb.cell (p:=⟨w.heap.size,2,none⟩) (by simp);have c3:=hb.cell (p:=⟨w.heap.size,3,none⟩) (by simp);have c4:=hb.cell (p:=⟨w.heap.size,4,none⟩) (by simp));have hb':=hb.mono (show w.heap.size+1<=_ by simp);have hz:=qf3 hb';have H2:=(H1.out.below hb').more (show w.heap.size+1<=_ by exact hz);refine(qov c g _ H2.arr H2.len H2.cap H2.max HF.out).mono ?_;rintro e w2⟨rfl,hb2⟩;rw[hl];clear H2;go_wp2;go_ret;exact⟨rfl,(((Below.refl _ w).alloc (Nat.le_refl _) _).trans (hb'.mono (by omega))).trans (hb2.mono (by omega))⟩
  |false =>
   go_enter func295,ntmps295;go_wp2_with(go_at_call 330;refine(qhb c g _ (H1.out.more (by simp))).mono ?_;rintro e w'⟨rfl,hb⟩;rw[hs];have c0:=hb.cell (p:=⟨w.heap.size,0,none⟩) (by simp);have c1:=hb.cell (p:=⟨w.heap.size,1,none⟩) (by simp);have c2:=hb.cell (p:=⟨w.heap.size,2,none⟩) (by simp);have c3:=hb.cell (p:=⟨w.heap.size,3,none⟩) (by simp);have c4:=hb.cell (p:=⟨w.heap.size,4,none⟩) (by simp));have hb':=hb.mono (show w.heap.size+1<=_ by simp);have hz:=qf3 hb';have H2:=(H1.out.below hb').more (show w.heap.size+1<=_ by exact hz);refine(qov c g _ H2.arr H2.len H2.cap H2.max HF.out).mono ?_;rintro e w2⟨rfl,hb2⟩;rw[hl];clear H2;go_wp2;go_ret;exact⟨rfl,(((Below.refl _ w).alloc (Nat.le_refl _) _).trans (hb'.mono (by omega))).trans (hb2.mono (by omega))⟩
end Go.Proofs.YtecikkjbnkhhkaaGreat
