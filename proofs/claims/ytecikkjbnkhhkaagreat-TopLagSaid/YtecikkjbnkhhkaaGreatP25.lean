/- A part of the walk. -/
import Derived.Test.YtecikkjbnkhhkaaGreatP24
import Derived.Test.YtecikkjbnkhhkaaGreatP22
import Derived.Deep.CutBlock
namespace Go.Proofs.YtecikkjbnkhhkaaGreat
open _root_.Go.Proofs.Tryz
set_option maxHeartbeats 4000000
set_option maxRecDepth 100000
section
open Go.RowKit
def qkv(M:qa4)(line:Int):Bool:=((catB M.T 8).any λx=>x.line==line)||((M.Q.any λx=>x.line==line)||M.bag.any λe=>e.line==line||e.anti==line)
theorem Arr.entry{w:World}{B:Nat}{A:Option Addr}{l:List EntC}(h:Arr EntC.enc 5 w B A l){i:Nat}(hi:i<l.length):∃b off,A=some ⟨b,off,none⟩/\b<B/\w.cell? ⟨b,off+i*5,none⟩=some (.int .i64 l[i].line)/\w.cell? ⟨b,off+i*5+1,none⟩=some (.int .i64 l[i].cls)/\w.cell? ⟨b,off+i*5+2,none⟩=some (.int .u64 (l[i].r:Int))/\w.cell? ⟨b,off+i*5+3,none⟩=some (.int .u64 (l[i].d:Int))/\w.cell? ⟨b,off+i*5+4,none⟩=some (.int .i64 l[i].anti):=by
 rcases h with h|⟨b,off,hA,hb,hc⟩
 · subst h;exact absurd hi (Nat.not_lt_zero _)
 · exact⟨b,off,hA,hb,hc i hi 0 _ rfl,hc i hi 1 _ rfl,hc i hi 2 _ rfl,hc i hi 3 _ rfl,hc i hi 4 _ rfl⟩
theorem qkn{α:Type}{l:List α}{k:Nat}(hk:k<l.length){p:α->Bool}(h:p l[k]=true):l.any p=true:=List.any_eq_true.2 ⟨l[k],List.getElem_mem hk,h⟩
theorem qu2{α:Type}{l:List α}{p:α->Bool}(h:∀i (hi:i<l.length),p l[i]=false):l.any p=false:=by
 rw[List.any_eq_false];intro x hx;obtain⟨i,hi,rfl⟩:=List.getElem_of_mem hx;rw[h i hi];decide
structure Few(M:qa4)(n:Nat):Prop where
 t:(catB M.T 8).length<=n
 q:M.Q.length<=n
 qn:M.qn<=n
 o:M.O.length<=n
 e:M.E.length<=n
 b:M.bag.length<=258
theorem qAu{W W':World}{a:Nat}{u v:Value}(hb:Below W.heap.size W W')(ha:a<W.heap.size)(h:W.cell? ⟨a,5,none⟩=some u/\W.cell? ⟨a,7,none⟩=some v):W'.cell? ⟨a,5,none⟩=some u/\W'.cell? ⟨a,7,none⟩=some v:=
 ⟨(hb.cell (p:=⟨a,5,none⟩) ha).trans h.1,(hb.cell (p:=⟨a,7,none⟩) ha).trans h.2⟩
section
variable {g:Own8}{w:World}{a:Nat}{P:qag}{M:qa4}
theorem qgl(h:qa6 g w a P M)(hn:M.qn<=900000):Calls prog 63 #[.pointer (some ⟨P.lp,0,none⟩)] w (qdl M.Q w):=by
 obtain⟨A,c,h1,_,_,h4⟩:=h.line;exact qng w 0 P.lp A c M.Q h1 λL at' n hf=>by have:=h4.len hf.box;omega
def qzw(M:qa4)(l:List qa3):Prop:=(∀x,x∈l↔x∈catB M.T 8\/x∈M.Q)/\l.length<=100000
theorem qv6(h:qa6 g w a P M)(line:Int)(hn:Few M 50000):Calls prog 341 #[.pointer (some ⟨a,0,none⟩),.int .i64 line] w (quv (qkv M line) w):=by
 have H:=hid h;have q5:=h.cells.2.2.2.2.2.1;have q7:=h.cells.2.2.2.2.2.2.2.1;have hla:=qa0 h.box.1;have HTA:Hid (∀W,Below w.heap.size w W->Calls prog 60 #[.pointer (some ⟨P.tb,0,none⟩)] W (qku M.T W)):=hid λW hW=>qio (h.below hW).tab (by have:=hn.t;omega)
 have HLA:Hid (∀W,Below w.heap.size w W->Calls prog 63 #[.pointer (some ⟨P.lp,0,none⟩)] W (qdl M.Q W)):=hid λW hW=>qgl (h.below hW) (by have:=hn.qn;omega)
 have HK:=hid (And.intro q5 q7);have HN:=hid hn;have HQN:=hid hn.q;clear h hn;obtain⟨Q,hQ⟩:∃Q,Q=M.Q:=⟨_,rfl⟩;rw[<-hQ]at HLA HQN;have HQ:=hid hQ;clear hQ;obtain⟨i0,hi0,hz0,hz1,hz2⟩:=info_parts qct;have HI:=hid hi0;have HZ0:=hid hz0;have HZ1:=hid hz1;have HZ2:=hid hz2;clear hi0 hz0 hz1 hz2;go_enter func341,ntmps341;go_upto_region 1 with fail;go_cut [19,20,21] (λv19 v20 v21 wx=>∃A c l,v19=.slice A l.length c/\v20=.int .i64 (l.length:Int)/\v21=.int .i64 0/\Own qa3.enc 85 5 wx w.heap.size A c l/\qzw M l/\Below w.heap.size w wx)
 case first =>
  go_region_held3 (λW=>W.cell? ⟨a,5,none⟩=some (.pointer (some ⟨P.tb,0,none⟩))/\W.cell? ⟨a,7,none⟩=some (.pointer (some ⟨P.lp,0,none⟩))) (first|(with_reducible refine qAu (W:=w) ?_ hla HK.out;(repeat(first|with_reducible exact Below.refl _ _|with_reducible assumption|with_reducible refine Below.drew ?_|with_reducible refine qa1 ?_ _));done)|go_keep) (first|(go_at_call 60;refine(HTA.out _ ?_).mono ?_;exact(by with_reducible repeat(first|exact Below.refl _ _|assumption|refine Below.drew ?_|refine qa1 ?_ _|refine Below.alloc ?_ (by first|omega|simp <;> omega) _|refine Below.setCell ?_ (by first|omega|simp <;> omega) _));rintro e w3⟨A1,c1,l1,rfl,hown1,hb1,hall⟩;have HALL:=hid hall;clear hall;have ST3:Below w.heap.size w w3:=(by refine Below.trans ?_ (hb1.mono ?_);exact(by with_reducible repeat(first|exact Below.refl _ _|assumption|refine Below.drew ?_|refine qa1 ?_ _|refine Below.alloc ?_ (by first|omega|simp <;> omega) _|refine Below.setCell ?_ (by first|omega|simp <;> omega) _));(first|exact Nat.le_refl _|(simp;done)|(simp;omega)|omega));have z3:=ST3.size;have HO1:Hid (Own qa3.enc 85 5 w3 w.heap.size A1 c1 l1):=hid (hown1.lower (lo':=w.heap.size) (by first|exact Nat.le_refl _|(simp;done)|(simp;omega)|omega));have HROW:=hid (qe4 HO1.out);(try(have HO2B:Hid (Own qa3.enc 85 5 w3 w.heap.size A2 c2 Q):=hid (HO2.out.below (by refine Below.trans ?_ (hb1.mono ?_);exact(by with_reducible repeat(first|exact Below.refl _ _|assumption|refine Below.drew ?_|refine qa1 ?_ _|refine Below.alloc ?_ (by first|omega|simp <;> omega) _|refine Below.setCell ?_ (by first|omega|simp <;> omega) _));(first|exact Nat.le_refl _|(simp;done)|(simp;omega)|omega)))));clear hown1 hb1)|(go_at_call 63;refine(HLA.out _ ?_).mono ?_;exact(by with_reducible repeat(first|exact Below.refl _ _|assumption|refine Below.drew ?_|refine qa1 ?_ _|refine Below.alloc ?_ (by first|omega|simp <;> omega) _|refine Below.setCell ?_ (by first|omega|simp <;> omega) _));rintro e w5⟨A2,c2,rfl,hown2,hb2⟩;have ST5:Below w.heap.size w w5:=(by refine Below.trans ?_ (hb2.mono ?_);exact(by with_reducible repeat(first|exact Below.refl _ _|assumption|refine Below.drew ?_|refine qa1 ?_ _|refine Below.alloc ?_ (by first|omega|simp <;> omega) _|refine Below.setCell ?_ (by first|omega|simp <;> omega) _));(first|exact Nat.le_refl _|(simp;done)|(simp;omega)|omega));have z5:=ST5.size;have HO2:Hid (Own qa3.enc 85 5 w5 w.heap.size A2 c2 Q):=hid (hown2.lower (lo':=w.heap.size) (by first|exact Nat.le_refl _|(simp;done)|(simp;omega)|omega));(try(have HO1B:Hid (Own qa3.enc 85 5 w5 w.heap.size A1 c1 l1):=hid (HO1.out.below (by refine Below.trans ?_ (hb2.mono ?_);exact(by with_reducible repeat(first|exact Below.refl _ _|assumption|refine Below.drew ?_|refine qa1 ?_ _|refine Below.alloc ?_ (by first|omega|simp <;> omega) _|refine Below.setCell ?_ (by first|omega|simp <;> omega) _));(first|exact Nat.le_refl _|(simp;done)|(simp;omega)|omega)))));clear hown2 hb2)|(refine qbe (l:=l1) (m:=Q) (A:=A1) (c:=c1) (lo:=w.heap.size) _ (by rfl) (.tmp 13) (.tmp 18) 141 (by rfl) i0 _ 48 underlying141 HI.out HZ0.out HZ1.out HZ2.out rfl (by decide) qa3.enc_len qa3.enc_one (by first|rfl|simp[Act.eval]) (by first|with_reducible exact HO1B.out|with_reducible exact HO1B.out.drew|with_reducible exact HO1.out|with_reducible exact HO1.out.drew) c2 (by first|rfl|simp[Act.eval]) (by first|with_reducible exact HO2B.out.arr qa3.enc_len|with_reducible exact(HO2B.out.drew).arr qa3.enc_len|with_reducible exact HO2.out.arr qa3.enc_len|with_reducible exact(HO2.out.drew).arr qa3.enc_len) (by have:=HQN.out;have:=HALL.out.1.length_eq;have:=HN.out.t;unfold maxLen;omega) (by have:=HQN.out;have:=HALL.out.1.length_eq;have:=HN.out.t;omega) (show Below w.heap.size w _ from(by with_reducible repeat(first|exact Below.refl _ _|assumption|refine Below.drew ?_|refine qa1 ?_ _|refine Below.alloc ?_ (by first|omega|simp <;> omega) _|refine Below.setCell ?_ (by first|omega|simp <;> omega) _))).size ?_;intro A7 c7 w7 hown7 hgr7 hloc7;have ST7:Below w.heap.size w w7:=(by refine Below.grown ?_ hgr7 ?_ HROW.out;exact(by with_reducible repeat(first|exact Below.refl _ _|assumption|refine Below.drew ?_|refine qa1 ?_ _|refine Below.alloc ?_ (by first|omega|simp <;> omega) _|refine Below.setCell ?_ (by first|omega|simp <;> omega) _));exact(show Below w.heap.size w _ from(by with_reducible repeat(first|exact Below.refl _ _|assumption|refine Below.drew ?_|refine qa1 ?_ _|refine Below.alloc ?_ (by first|omega|simp <;> omega) _|refine Below.setCell ?_ (by first|omega|simp <;> omega) _))).size)));all_goals
   have hll:=HALL.out.1.length_eq;have hln:l1.length+Q.length<=100000:=by have:=HQN.out;have:=HN.out.t;omega
   go_wp2_with fail;go_meet;refine⟨A7,c7,l1++Q,by rw[List.length_append],by rw[List.length_append];simp,rfl,?_,⟨λx=>by rw[List.mem_append,HALL.out.1.mem_iff,<-HQ.out],by rw[List.length_append];exact hln⟩,?_⟩
   · first|with_reducible exact hown7|with_reducible exact hown7.drew
   · exact(by with_reducible repeat(first|exact Below.refl _ _|assumption|refine Below.drew ?_|refine qa1 ?_ _|refine Below.alloc ?_ (by first|omega|simp <;> omega) _|refine Below.setCell ?_ (by first|omega|simp <;> omega) _))
 obtain⟨A,c,l,rfl,rfl,rfl,hown,hlk,hb⟩:=hcut;obtain⟨w1,hw1⟩:∃x,x=wc:=⟨_,rfl⟩;subst hw1;have HO:=hid hown;have HL:=hid hlk;have HB1:=hid hb;have hm:=hown.max;have hcl:=hown.len;have hll:=hlk.2;have HHU:Hid (qkv M line=(l.any (λx=>x.line==line)||M.bag.any λe=>e.line==line||e.anti==line)):=hid (by
  rw[qkv,<-Bool.or_assoc]
  congr 1
  rw[<-List.any_append,Bool.eq_iff_iff,List.any_eq_true,List.any_eq_true]
  constructor
  · rintro⟨x,hx,hy⟩;exact⟨x,(hlk.1 x).2 (List.mem_append.1 hx),hy⟩
  · rintro⟨x,hx,hy⟩;exact⟨x,List.mem_append.2 ((hlk.1 x).1 hx),hy⟩)
 clear hown hlk hb q5 q7 HK HTA HLA HQ HQN;go_wp2_with fail;go_loopw [21] (λv21 wr=>∃k:Nat,k<=l.length/\v21=.int .i64 k/\(∀i (hi:i<l.length),i<k->(l[i].line==line)=false)/\Below w1.heap.size w1 wr) (λv21 _=>l.length-(intOf v21).toNat)
 case atStart=>exact⟨0,Nat.zero_le _,rfl,λi _ hi=>absurd hi (Nat.not_lt_zero i),Below.refl _ _⟩
 case round =>
  obtain⟨k,hkl,rfl,hno,hbr⟩:=hrel;have HNO:=hid hno;have HBR:=hid hbr;clear hno;by_cases hlt:k<l.length
  · obtain⟨b,off,rfl,hB,k0,k1,k2,k3,k4⟩:=((HO.out.below hbr).arr qa3.enc_len).link hlt
    have i1:(0:Int)<=(k:Int):=by omega
    have i2:(k:Int)<(l.length:Int):=by omega
    clear hbr;cases hc:(l[k].line==line)with
    |true =>
     have HC:=hid hc;go_wp2_with fail;go_ret;exact⟨by rw[HHU.out,qkn hlt HC.out];rfl,(HB1.out.trans (HBR.out.mono HB1.out.size)).alloc (by have:=HB1.out.size;have:=HBR.out.size;omega) _⟩
    |false =>
     have HC:=hid hc;go_wp2_with fail;exact⟨⟨k+1,by omega,by go_num,λi hi h2=>(by
      by_cases hik:i=k
      · subst hik;exact HC.out
      · exact HNO.out i hi (by omega)),HBR.out.alloc HBR.out.size _⟩,by simp[intOf];omega⟩
  · obtain rfl:k=l.length:=by omega
    have HB2:=hid (HB1.out.trans (HBR.out.mono HB1.out.size));have H2:=H.out.below HB2.out;have q4:=H2.cells.2.2.2.2.1;have hla2:=qa0 H2.box.1;have HH2:Hid (qkv M line=M.bag.any λe=>e.line==line||e.anti==line):=hid (by rw[HHU.out,qu2 (λi hi=>HNO.out i hi hi),Bool.false_or]);obtain⟨Ab,cb,hbag,_,_⟩:=H2.bag;have TB:=hid (qr5 wr 0 P.bp Ab cb M.bag hbag (by have:=HN.out.b;omega));have HBL:=hid HN.out.b;obtain⟨E,hE⟩:∃E,E=M.bag:=⟨_,rfl⟩;rw[<-hE]at HH2 TB HBL;clear hbag hE H2 HNO HBR hbr HO HL hm hcl hll hkl HHU;go_wp2_with fail;refine TB.out.mono ?_;rintro e w3⟨Ae,ce,rfl,hown,hb3⟩;have HO:=hid hown;have HB3:=hid (HB2.out.trans (hb3.mono HB2.out.size));have hm:=hown.max;have hcl:=hown.len;have hel:=HBL.out;clear hown hb3 q4 hla2 TB;go_wp2_with fail;go_loopw [36] (λv36 wr=>∃k:Nat,k<=E.length/\v36=.int .i64 k/\(∀i (hi:i<E.length),i<k->(E[i].line==line||E[i].anti==line)=false)/\Below w3.heap.size w3 wr) (λv36 _=>E.length-(intOf v36).toNat)
    case atStart=>exact⟨0,Nat.zero_le _,rfl,λi _ hi=>absurd hi (Nat.not_lt_zero i),Below.refl _ _⟩
    case round =>
     rename_i wq;obtain⟨k,hkl,rfl,hno,hbr⟩:=hrel;have HNO:=hid hno;have HBR:=hid hbr;clear hno;by_cases hlt:k<E.length
     · obtain⟨b,off,rfl,hB,k0,k1,k2,k3,k4⟩:=((HO.out.below hbr).arr EntC.enc_len).entry hlt
       have i1:(0:Int)<=(k:Int):=by omega
       have i2:(k:Int)<(E.length:Int):=by omega
       clear hbr;cases hc:(E[k].line==line)with
       |true =>
        have HC:=hid hc;go_wp2_with fail;go_ret;exact⟨by rw[HH2.out,qkn hlt (by rw[HC.out,Bool.true_or])];rfl,(HB3.out.trans (HBR.out.mono HB3.out.size)).alloc (by have:=HB3.out.size;have:=HBR.out.size;omega) _⟩
       |false =>
        cases hc2:(E[k].anti==line)with
        |true =>
         have HC:=hid hc;have HC2:=hid hc2;go_wp2_with fail;go_ret;exact⟨by rw[HH2.out,qkn hlt (by rw[HC2.out,Bool.or_true])];rfl,(HB3.out.trans (HBR.out.mono HB3.out.size)).alloc (by have:=HB3.out.size;have:=HBR.out.size;omega) _⟩
        |false =>
         have HC:=hid hc;have HC2:=hid hc2;go_wp2_with fail;exact⟨⟨k+1,by omega,by go_num,λi hi h2=>(by
          by_cases hik:i=k
          · subst hik;rw[HC.out,HC2.out];rfl
          · exact HNO.out i hi (by omega)),HBR.out.alloc HBR.out.size _⟩,by simp[intOf];omega⟩
     · obtain rfl:k=E.length:=by omega
       clear hbr;go_wp2_with fail;go_ret;exact⟨by rw[HH2.out,qu2 (λi hi=>HNO.out i hi hi)];rfl,HB3.out.trans (HBR.out.mono HB3.out.size)⟩
end
end
section
open Go.RowKit
def qxi(S:List qan)(line c:Int)(ok:Bool):Prop:=
 (ok=true->∃(i k:Nat) (hi:i<S.length),c=S[i].cls/\(∃hk:k<S[i].taken.length,S[i].taken[k]=true)/\∃hs:k<(qb1 i S[i].cls).length,line=((qb1 i S[i].cls)[k]:Int))/\(ok=false->qxj S line)
def qi4(M:qa4)(l:List ChgC)(i:Nat)(h:i<l.length):Prop:=qbv l[i]=true->qxi M.S l[i].line l[i].cls true/\qkv M l[i].line=false/\∀j (hj:j<i),qbv (l[j]'(by omega))=true->(l[j]'(by omega)).line≠l[i].line
def qoa(M:qa4)(l:List ChgC)(i:Nat)(h:i<l.length):Prop:=qbv l[i]=true/\((∃c ok,qxi M.S l[i].line c ok/\(ok=false\/c≠l[i].cls))\/qkv M l[i].line=true\/∃j,∃hj:j<i,qbv (l[j]'(by omega))=true/\(l[j]'(by omega)).line=l[i].line)
def qun(M:qa4)(l:List ChgC)(w:World)(e:Ending)(w':World):Prop:=∃r,e=.returned (.bool r)/\Below w.heap.size w w'/\(r=true->∀i (h:i<l.length),qi4 M l i h)/\(r=false->∃i,∃h:i<l.length,qoa M l i h)
theorem Arr.chg{w:World}{B:Nat}{A:Option Addr}{l:List ChgC}(h:Arr ChgC.enc 11 w B A l){i:Nat}(hi:i<l.length):∃b off,A=some ⟨b,off,none⟩/\b<B/\w.cell? ⟨b,off+i*11,none⟩=some (.int .i64 l[i].kind)/\w.cell? ⟨b,off+i*11+1,none⟩=some (.string l[i].key)/\w.cell? ⟨b,off+i*11+2,none⟩=some (.string l[i].val)/\w.cell? ⟨b,off+i*11+3,none⟩=some (.bool l[i].had)/\w.cell? ⟨b,off+i*11+4,none⟩=some (.string l[i].old.key)/\w.cell? ⟨b,off+i*11+5,none⟩=some (.int .u64 (l[i].old.id:Int))/\w.cell? ⟨b,off+i*11+6,none⟩=some (.int .u64 (l[i].old.ver:Int))/\w.cell? ⟨b,off+i*11+7,none⟩=some (.int .i64 l[i].old.line)/\w.cell? ⟨b,off+i*11+8,none⟩=some (.int .i64 l[i].old.cls)/\w.cell? ⟨b,off+i*11+9,none⟩=some (.int .i64 l[i].line)/\w.cell? ⟨b,off+i*11+10,none⟩=some (.int .i64 l[i].cls):=by
 rcases h with h|⟨b,off,hA,hb,hc⟩
 · subst h;exact absurd hi (Nat.not_lt_zero _)
 · exact⟨b,off,hA,hb,hc i hi 0 _ rfl,hc i hi 1 _ rfl,hc i hi 2 _ rfl,hc i hi 3 _ rfl,hc i hi 4 _ rfl,hc i hi 5 _ rfl,hc i hi 6 _ rfl,hc i hi 7 _ rfl,hc i hi 8 _ rfl,hc i hi 9 _ rfl,hc i hi 10 _ rfl⟩
theorem qea(w:World)(x:ChgC)(t:TypeId):(w.alloc (.cells #[.int .i64 x.kind,.string x.key,.string x.val,.bool x.had,.string x.old.key,.int .u64 (x.old.id:Int),.int .u64 (x.old.ver:Int),.int .i64 x.old.line,.int .i64 x.old.cls,.int .i64 x.line,.int .i64 x.cls] t)).heap[w.heap.size]? =some (.cells x.enc.toArray t (0,0)):=(qa2 _ _ _).trans (if_pos rfl)
theorem qAt{W W':World}{a x:Nat}{u v:Value}(hb:Below W.heap.size W W')(ha:a<W.heap.size)(hx:x<W.heap.size){i j:Nat}(h:W.cell? ⟨a,i,none⟩=some u/\W.cell? ⟨x,j,none⟩=some v):W'.cell? ⟨a,i,none⟩=some u/\W'.cell? ⟨x,j,none⟩=some v:=
 ⟨(hb.cell (p:=⟨a,i,none⟩) ha).trans h.1,(hb.cell (p:=⟨x,j,none⟩) hx).trans h.2⟩
section
variable {g:Own8}{w:World}{a:Nat}{P:qag}{M:qa4}
theorem qzt(h:qa6 g w a P M)(line:Int):Calls prog 340 #[.pointer (some ⟨P.pp,0,none⟩),.int .i64 line] w λe w'=>∃(c:Int) (ok:Bool),e=.returned (.tuple #[.int .i64 c,.bool ok])/\qxi M.S line c ok/\Below w.heap.size w w':=by
 refine(qAb w 0 P.pp P.sc M.S h.pool.1 line).mono ?_;rintro e w'⟨hb,c,ok,rfl,h1,h2⟩;exact⟨c,ok,rfl,⟨h1,h2⟩,hb⟩
theorem qwf(h:qa6 g w a P M)(l:List ChgC)(A:Option Addr)(c:Nat)(hA:Arr ChgC.enc 11 w w.heap.size A l)(hc:l.length<=c)(_hm:c<=9223372036854775807)(hl:l.length<=100000)(hn:Few M 50000):Calls prog 306 #[.pointer (some ⟨a,0,none⟩),.slice A l.length c] w (qun M l w):=by
 have H:=hid h;have HA:=hid hA;have HN:=hid hn;clear h hA hn;go_enter func306,ntmps306;go_wp2_with fail;go_loopw [13] (λv13 wr=>∃k:Nat,k<=l.length/\v13=.int .i64 k/\(∀i (hi:i<l.length),i<k->qi4 M l i hi)/\Below w.heap.size w wr) (λv13 _=>l.length-(intOf v13).toNat)
 case atStart=>exact⟨0,Nat.zero_le _,rfl,λi _ hi=>absurd hi (Nat.not_lt_zero i),Below.refl _ _⟩
 case round =>
  obtain⟨k,hkl,rfl,hno,hbr⟩:=hrel;have HNO:=hid hno;have HBR:=hid hbr;clear hno;by_cases hlt:k<l.length
  · obtain⟨b,off,rfl,hB,k0,k1,k2,k3,k4,k5,k6,k7,k8,k9,kA⟩:=((HA.out.below hbr).more hbr.size).chg hlt
    have i1:(0:Int)<=(k:Int):=by omega
    have i2:(k:Int)<(l.length:Int):=by omega
    obtain⟨x,hx⟩:∃x,x=l[k]:=⟨_,rfl⟩;rw[<-hx]at k0 k1 k2 k3 k4 k5 k6 k7 k8 k9 kA;have HX:=hid hx;clear hbr hx;go_upto_region 4 with fail;generalize hw1:World.alloc _ _=w1;have R0:w1.heap[wr.heap.size]? =some (.cells x.enc.toArray 376 (0,0)):=by rw[<-hw1];exact qea _ x _
    have b1:Below w.heap.size w w1:=by rw[<-hw1];exact HBR.out.alloc HBR.out.size _
    have bk1:Below wr.heap.size wr w1:=by rw[<-hw1];exact(Below.refl _ _).alloc (Nat.le_refl _) _
    obtain⟨c0,c1,c2,c3,c4,c5,c6,c7,c8,c9,cA⟩:=ChgC.cells R0;have hl0:=qa0 R0;have HR0:=hid R0;have HB1:=hid b1;obtain⟨vb,hvb⟩:∃vb,vb=wr.heap.size:=⟨_,rfl⟩;rw[<-hvb]at HR0 c0 c1 c2 c3 c4 c5 c6 c7 c8 c9 cA hl0 ⊢;clear hw1 R0 b1 k0 k1 k2 k3 k4 k5 k6 k7 k8 k9 kA bk1 hvb hB;have HXV:=hid x.v_eq;go_wp2_with fail;have TM:=qf4 x w1;rw[HXV.out]at TM;refine TM.mono ?_;rintro e w2⟨rfl,hb2⟩;have R0:=qac hb2 hl0 HR0.out;obtain⟨c0,c1,c2,c3,c4,c5,c6,c7,c8,c9,cA⟩:=ChgC.cells R0;have hl0:=qa0 R0;have HR0:=hid R0;have HB2:=hid (HB1.out.trans (hb2.mono HB1.out.size));clear hb2 TM R0 HB1 HBR;cases hnd:qbv x with
    |false =>
     have HND:=hid hnd;go_wp2_with fail;exact⟨⟨k+1,by omega,by go_num,λi hi h2=>(by
      by_cases hik:i=k
      · subst hik;intro hn;rw[<-HX.out,HND.out]at hn;cases hn
      · exact HNO.out i hi (by omega)),HB2.out⟩,by simp[intOf];omega⟩
    |true =>
     have HND:=hid hnd;clear hnd;have H2:=H.out.below HB2.out;have q1:=H2.cells.2.1;have hla:=qa0 H2.box.1;have HOF:Hid (∀W,Below w2.heap.size w2 W->_):=hid λW (hW:Below w2.heap.size w2 W)=>qzt (H2.below hW) x.line
     have HK:=hid (And.intro q1 c9);clear H2;go_upto_region 5 with fail;go_cut [7,8] (λv7 v8 wx=>∃cc ok,v7=.int .i64 cc/\v8=.bool ok/\qxi M.S x.line cc ok/\Below w2.heap.size w2 wx)
     case first =>
      go_region_held3 (λW=>W.cell? ⟨a,1,none⟩=some (.pointer (some ⟨P.pp,0,none⟩))/\W.cell? ⟨vb,9,none⟩=some (.int .i64 x.line)) (first|(with_reducible refine qAt (W:=w2) ?_ hla hl0 HK.out;(repeat(first|with_reducible exact Below.refl _ _|with_reducible assumption|with_reducible refine Below.drew ?_|with_reducible refine qa1 ?_ _));done)|go_keep) (first|(go_at_call 340;refine(HOF.out _ ?_).mono ?_;exact(by with_reducible repeat(first|exact Below.refl _ _|assumption|refine Below.drew ?_|refine qa1 ?_ _|refine Below.alloc ?_ (by first|omega|simp <;> omega) _|refine Below.setCell ?_ (by first|omega|simp <;> omega) _));rintro e w3⟨cc,ok,rfl,hof,hb3⟩;have HOFR:=hid hof;clear hof;have ST3:Below w2.heap.size w2 w3:=(by refine Below.trans ?_ (hb3.mono ?_);exact(by with_reducible repeat(first|exact Below.refl _ _|assumption|refine Below.drew ?_|refine qa1 ?_ _|refine Below.alloc ?_ (by first|omega|simp <;> omega) _|refine Below.setCell ?_ (by first|omega|simp <;> omega) _));(first|exact Nat.le_refl _|(simp;done)|(simp;omega)|omega));clear hb3)|fail);all_goals
       go_wp2_with fail;go_meet;exact⟨cc,ok,rfl,rfl,HOFR.out,(by with_reducible repeat(first|exact Below.refl _ _|assumption|refine Below.drew ?_|refine qa1 ?_ _|refine Below.alloc ?_ (by first|omega|simp <;> omega) _|refine Below.setCell ?_ (by first|omega|simp <;> omega) _))⟩
     obtain⟨cc,ok,rfl,rfl,hof,hb3⟩:=hcut;obtain⟨w3,hw3⟩:∃x,x=wc:=⟨_,rfl⟩;subst hw3;have R0:=qac hb3 hl0 HR0.out;obtain⟨c0,c1,c2,c3,c4,c5,c6,c7,c8,c9,cA⟩:=ChgC.cells R0;have hl0:=qa0 R0;have HR0:=hid R0;have HOFR:=hid hof;have HB3:=hid (HB2.out.trans (hb3.mono HB2.out.size));clear hof hb3 HOF HK q1 hla R0 HB2;cases ok with
     |false =>
      go_wp2_with fail;go_ret;exact⟨false,rfl,HB3.out,(λh0=>by cases h0),λ_=>⟨k,hlt,by rw[<-HX.out];exact HND.out,.inl ⟨cc,false,by rw[<-HX.out];exact HOFR.out,.inl rfl⟩⟩⟩
     |true =>
      by_cases hcc:cc=x.cls
      · have hccb:(cc != x.cls)=false:=by rw[bne_eq_false_iff_eq];exact hcc
        have HCC:=hid hcc;have TU:=hid (qv6 (H.out.below HB3.out) x.line HN.out);clear hcc;go_wp2_with fail;refine TU.out.mono ?_;rintro e w4⟨rfl,hb4⟩;have R0:=qac hb4 hl0 HR0.out;obtain⟨c0,c1,c2,c3,c4,c5,c6,c7,c8,c9,cA⟩:=ChgC.cells R0;have hl0:=qa0 R0;have HR0:=hid R0;have HB4:=hid (HB3.out.trans (hb4.mono HB3.out.size));clear hb4 R0 HB3;cases hu:qkv M x.line with
        |true =>
         have HU:=hid hu;clear hu;go_wp2_with fail;go_ret;exact⟨false,rfl,HB4.out,(λh0=>by cases h0),λ_=>⟨k,hlt,by rw[<-HX.out];exact HND.out,.inr (.inl (by rw[<-HX.out];exact HU.out))⟩⟩
        |false =>
         have HU:=hid hu;clear hu;have hkc:(k:Int)<=(c:Int):=by omega
         go_wp2_with fail;go_loopw [49] (λv49 wj=>∃j:Nat,j<=k/\v49=.int .i64 j/\(∀i (hi:i<l.length),i<j->qbv l[i]=true->l[i].line≠x.line)/\Below w4.heap.size w4 wj) (λv49 _=>k-(intOf v49).toNat)
         case atStart=>exact⟨0,Nat.zero_le _,rfl,λi _ hi=>absurd hi (Nat.not_lt_zero i),Below.refl _ _⟩
         case round =>
          obtain⟨j,hjk,rfl,hnj,hbj⟩:=hrel;have HNJ:=hid hnj;have HBJ:=hid hbj;have hl0j:=Nat.lt_of_lt_of_le hl0 hbj.size;have R0:=qac hbj hl0 HR0.out;obtain⟨c0,c1,c2,c3,c4,c5,c6,c7,c8,c9,cA⟩:=ChgC.cells R0;have HR0J:=hid R0;clear hnj R0;by_cases hjl:j<k
          · have hjl':j<l.length:=by omega
            obtain⟨b',off',hA',hB',k0,k1,k2,k3,k4,k5,k6,k7,k8,k9,kA⟩:=((HA.out.below (HB4.out.trans (hbj.mono HB4.out.size))).more (HB4.out.trans (hbj.mono HB4.out.size)).size).chg hjl';cases hA'
            have i1:(0:Int)<=(j:Int):=by omega
            have i2:(j:Int)<(k:Int):=by omega
            obtain⟨y,hy⟩:∃y,y=l[j]:=⟨_,rfl⟩;rw[<-hy]at k0 k1 k2 k3 k4 k5 k6 k7 k8 k9 kA;have HY:=hid hy;clear hbj hy hB';go_upto_region 11 with fail;generalize hw5:World.alloc _ _=w5;have R1:w5.heap[wr.heap.size]? =some (.cells y.enc.toArray 376 (0,0)):=by rw[<-hw5];exact qea _ y _
            have bk5:Below wr.heap.size wr w5:=by rw[<-hw5];exact(Below.refl _ _).alloc (Nat.le_refl _) _
            obtain⟨y0,y1,y2,y3,y4,y5,y6,y7,y8,y9,yA⟩:=ChgC.cells R1;have hl1:=qa0 R1;have HR1:=hid R1;have HB5:=hid (HBJ.out.trans (bk5.mono HBJ.out.size));have HR05:=hid (qac bk5 hl0j HR0J.out);have hl05:=Nat.lt_of_lt_of_le hl0j bk5.size;obtain⟨yb,hyb⟩:∃yb,yb=wr.heap.size:=⟨_,rfl⟩;rw[<-hyb]at HR1 y0 y1 y2 y3 y4 y5 y6 y7 y8 y9 yA hl1 ⊢;have HYV:=hid y.v_eq;clear hw5 R1 bk5 hyb k0 k1 k2 k3 k4 k5 k6 k7 k8 k9 kA HR0J hl0j c0 c1 c2 c3 c4 c5 c6 c7 c8 c9 cA;go_wp2_with fail;have TM:=qf4 y w5;rw[HYV.out]at TM;refine TM.mono ?_;rintro e w6⟨rfl,hb6⟩;have R1:=qac hb6 hl1 HR1.out;have R0:=qac hb6 hl05 HR05.out;obtain⟨y0,y1,y2,y3,y4,y5,y6,y7,y8,y9,yA⟩:=ChgC.cells R1;obtain⟨c0,c1,c2,c3,c4,c5,c6,c7,c8,c9,cA⟩:=ChgC.cells R0;have hl1:=qa0 R1;have hl0:=qa0 R0;have HB6:=hid (HB5.out.trans (hb6.mono HB5.out.size));clear hb6 R1 R0 HB5 HR1 HR05 hl05 TM;cases hny:qbv y with
            |false =>
             have HNY:=hid hny;clear hny;go_wp2_with fail;exact⟨⟨j+1,by omega,by go_num,λi hi h2 h3=>(by
              by_cases hik:i=j
              · subst hik;rw[<-HY.out,HNY.out]at h3;cases h3
              · exact HNJ.out i hi (by omega) h3),HB6.out⟩,by simp[intOf];omega⟩
            |true =>
             have HNY:=hid hny;clear hny;cases hle:(y.line==x.line)with
             |false =>
              have HLE:=hid hle;go_wp2_with fail;exact⟨⟨j+1,by omega,by go_num,λi hi h2 h3=>(by
               by_cases hik:i=j
               · subst hik;rw[<-HY.out];exact beq_eq_false_iff_ne.1 HLE.out
               · exact HNJ.out i hi (by omega) h3),HB6.out⟩,by simp[intOf];omega⟩
             |true =>
              have HLE:=hid hle;go_wp2_with fail;go_ret;exact⟨false,rfl,HB4.out.trans (HB6.out.mono HB4.out.size),(λh0=>by cases h0),λ_=>⟨k,hlt,by rw[<-HX.out];exact HND.out,.inr (.inr ⟨j,hjl,by rw[<-HY.out];exact HNY.out,by rw[<-HX.out,<-HY.out];exact beq_iff_eq.1 HLE.out⟩)⟩⟩
          · obtain rfl:j=k:=by omega
            clear hbj;go_wp2_with fail;exact⟨⟨j+1,by omega,by go_num,λi hi h2=>(by
             by_cases hik:i=j
             · subst hik
               intro _
               refine⟨?_,by rw[<-HX.out];exact HU.out,λq hq hnq=>by rw[<-HX.out];exact HNJ.out q (by omega) hq hnq⟩
               have:=HOFR.out
               rw[HCC.out]at this
               rw[<-HX.out]
               exact this
             · exact HNO.out i hi (by omega)),HB4.out.trans (HBJ.out.mono HB4.out.size)⟩,by simp[intOf];omega⟩
      · have hccb:(cc != x.cls)=true:=by rw[bne_iff_ne];exact hcc
        have HCC:=hid hcc;clear hcc;go_wp2_with fail;go_ret;exact⟨false,rfl,HB3.out,(λh0=>by cases h0),λ_=>⟨k,hlt,by rw[<-HX.out];exact HND.out,.inl ⟨cc,true,by rw[<-HX.out];exact HOFR.out,.inr (by rw[<-HX.out];exact HCC.out)⟩⟩⟩
  · obtain rfl:k=l.length:=by omega
    clear hbr;go_wp2_with fail;go_ret;exact⟨true,rfl,HBR.out,λ_ i hi=>HNO.out i hi hi,λh0=>by cases h0⟩
end
end
section
open Go.RowKit
def qbw(x:ChgC):Bool:=x.kind==2||x.kind==3||x.kind==4||(x.kind==5&&x.had)
def qci(x y:ChgC):Bool:=(qcf x&&qcf y&&(x.key.toList==y.key.toList))||(x.kind==5&&y.kind==5)
def qec(l:List ChgC):Prop:=1<=l.length/\l.length<=3/\∀i (h:i<l.length),qbw l[i]=true/\∀j (hj:j<i),qci l[i] (l[j]'(by omega))=false
def qob(l:List ChgC)(w:World)(e:Ending)(w':World):Prop:=∃r,e=.returned (.bool r)/\Below w.heap.size w w'/\(r=true->qec l)/\(r=false->¬qec l)
theorem qpz(l:List ChgC)(A:Option Addr)(c:Nat)(w:World)(hA:Arr ChgC.enc 11 w w.heap.size A l)(hc:l.length<=c)(_hm:c<=9223372036854775807):Calls prog 304 #[.slice A l.length c] w (qob l w):=by
 by_cases h1:1<=l.length;rotate_left
 · have i1:(l.length:Int)<1:=by omega
   have H1:=hid h1;clear h1;go_enter func304,ntmps304;go_wp2_with fail;go_ret;exact⟨false,rfl,Below.refl _ _,(λh0=>by cases h0),λ_ h=>H1.out h.1⟩
 by_cases h3:l.length<=3;rotate_left
 · have i1:¬(l.length:Int)<1:=by omega
   have i3:(3:Int)<(l.length:Int):=by omega
   have H3:=hid h3;clear h1 h3;go_enter func304,ntmps304;go_wp2_with fail;go_ret;exact⟨false,rfl,Below.refl _ _,(λh0=>by cases h0),λ_ h=>H3.out h.2.1⟩
 have j1:¬(l.length:Int)<1:=by omega
 have j3:¬(3:Int)<(l.length:Int):=by omega
 have HA:=hid hA;have H1:=hid h1;have H3:=hid h3;clear h1 hA;go_enter func304,ntmps304;go_wp2_with fail;go_loopw [17] (λv17 wr=>∃k:Nat,k<=l.length/\v17=.int .i64 k/\(∀i (h:i<l.length),i<k->qbw l[i]=true/\∀j (hj:j<i),qci l[i] (l[j]'(by omega))=false)/\Below w.heap.size w wr) (λv17 _=>l.length-(intOf v17).toNat)
 case atStart=>exact⟨0,Nat.zero_le _,rfl,λi _ hi=>absurd hi (Nat.not_lt_zero i),Below.refl _ _⟩
 case round =>
  obtain⟨k,hkl,rfl,hno,hbr⟩:=hrel;have HNO:=hid hno;have HBR:=hid hbr;clear hno;by_cases hlt:k<l.length
  · obtain⟨b,off,rfl,hB,k0,k1,k2,k3,k4,k5,k6,k7,k8,k9,kA⟩:=((HA.out.below hbr).more hbr.size).chg hlt
    have i1:(0:Int)<=(k:Int):=by omega
    have i2:(k:Int)<(l.length:Int):=by omega
    obtain⟨x,hx⟩:∃x,x=l[k]:=⟨_,rfl⟩;rw[<-hx]at k0 k1 k2 k3 k4 k5 k6 k7 k8 k9 kA;have HX:=hid hx;clear hbr hx;go_upto_region 6 with fail;generalize hw1:World.alloc _ _=w1;have R0:w1.heap[wr.heap.size]? =some (.cells x.enc.toArray 376 (0,0)):=by rw[<-hw1];exact qea _ x _
    have b1:Below w.heap.size w w1:=by rw[<-hw1];exact HBR.out.alloc HBR.out.size _
    obtain⟨c0,c1,c2,c3,c4,c5,c6,c7,c8,c9,cA⟩:=ChgC.cells R0;have hl0:=qa0 R0;have HR0:=hid R0;have HB1:=hid b1;obtain⟨vb,hvb⟩:∃vb,vb=wr.heap.size:=⟨_,rfl⟩;rw[<-hvb]at HR0 c0 c1 c2 c3 c4 c5 c6 c7 c8 c9 cA hl0 ⊢;clear hw1 R0 b1 k0 k1 k2 k3 k4 k5 k6 k7 k8 k9 kA hvb hB;go_upto_block 2 with fail;go_cut [] (λwx=>wx=w1/\qbw x=true)
    case first =>
     by_cases e2:x.kind=2
     · have e:(x.kind==2)=true:=by rw[e2];rfl
       have hk:qbw x=true:=by simp[qbw,e]
       have HK:=hid hk;clear e2 hk;go_wp2_with fail;go_meet;exact⟨rfl,HK.out⟩
     by_cases e3:x.kind=3
     · have e:(x.kind==3)=true:=by rw[e3];rfl
       have e':(x.kind==2)=false:=by rw[e3];rfl
       have hk:qbw x=true:=by simp[qbw,e]
       have HK:=hid hk;clear e2 e3 hk;go_wp2_with fail;go_meet;exact⟨rfl,HK.out⟩
     by_cases e4:x.kind=4
     · have e:(x.kind==4)=true:=by rw[e4];rfl
       have e':(x.kind==2)=false:=by rw[e4];rfl
       have e'':(x.kind==3)=false:=by rw[e4];rfl
       have hk:qbw x=true:=by simp[qbw,e]
       have HK:=hid hk;clear e2 e3 e4 hk;go_wp2_with fail;go_meet;exact⟨rfl,HK.out⟩
     have b2:(x.kind==2)=false:=by rw[beq_eq_false_iff_ne];exact e2
     have b3:(x.kind==3)=false:=by rw[beq_eq_false_iff_ne];exact e3
     have b4:(x.kind==4)=false:=by rw[beq_eq_false_iff_ne];exact e4
     by_cases e5:x.kind=5
     · have b5:(x.kind==5)=true:=by rw[e5];rfl
       cases hd:x.had with
       |true =>
        have hk:qbw x=true:=by simp[qbw,b5,hd]
        have HK:=hid hk;rw[hd]at c3;clear e2 e3 e4 e5 hk hd;go_wp2_with fail;go_meet;exact⟨rfl,HK.out⟩
       |false =>
        have hk:qbw x=false:=by simp[qbw,b2,b3,b4,hd]
        have HK:=hid hk;rw[hd]at c3;clear e2 e3 e4 e5 hk hd;go_wp2_with fail;go_ret;exact⟨false,rfl,HB1.out,(λh0=>by cases h0),λ_ h=>by have:=(h.2.2 k hlt).1;rw[<-HX.out,HK.out]at this;cases this⟩
     · have b5:(x.kind==5)=false:=by rw[beq_eq_false_iff_ne];exact e5
       have hk:qbw x=false:=by simp[qbw,b2,b3,b4,b5]
       have HK:=hid hk;clear e2 e3 e4 e5 hk;go_wp2_with fail;go_ret;exact⟨false,rfl,HB1.out,(λh0=>by cases h0),λ_ h=>by have:=(h.2.2 k hlt).1;rw[<-HX.out,HK.out]at this;cases this⟩
    obtain⟨rfl,hko⟩:=hcut;have HKO:=hid hko;clear hko;have hkc:(k:Int)<=(c:Int):=by omega
    obtain⟨w4,hw4⟩:∃x,x=wc:=⟨_,rfl⟩;subst hw4;have HB4:=HB1;have HXV:=hid x.v_eq;clear HB1 HBR c0 c1 c2 c3 c4 c5 c6 c7 c8 c9 cA;go_wp2_with fail;go_loopw [37] (λv37 wj=>∃j:Nat,j<=k/\v37=.int .i64 j/\(∀i (hi:i<l.length),i<j->qci x l[i]=false)/\Below w4.heap.size w4 wj) (λv37 _=>k-(intOf v37).toNat)
    case atStart=>exact⟨0,Nat.zero_le _,rfl,λi _ hi=>absurd hi (Nat.not_lt_zero i),Below.refl _ _⟩
    case round =>
     obtain⟨j,hjk,rfl,hnj,hbj⟩:=hrel;have HNJ:=hid hnj;have HBJ:=hid hbj;have hl0j:=Nat.lt_of_lt_of_le hl0 hbj.size;have R0:=qac hbj hl0 HR0.out;have HR0J:=hid R0;clear hnj R0;by_cases hjl:j<k
     · have hjl':j<l.length:=by omega
       obtain⟨b',off',hA',hB',k0,k1,k2,k3,k4,k5,k6,k7,k8,k9,kA⟩:=((HA.out.below (HB4.out.trans (hbj.mono HB4.out.size))).more (HB4.out.trans (hbj.mono HB4.out.size)).size).chg hjl';cases hA'
       have i1:(0:Int)<=(j:Int):=by omega
       have i2:(j:Int)<(k:Int):=by omega
       obtain⟨y,hy⟩:∃y,y=l[j]:=⟨_,rfl⟩;rw[<-hy]at k0 k1 k2 k3 k4 k5 k6 k7 k8 k9 kA;have HY:=hid hy;clear hbj hy hB';go_upto_region 17 with fail;generalize hw5:World.alloc _ _=w5;have R1:w5.heap[wr.heap.size]? =some (.cells y.enc.toArray 376 (0,0)):=by rw[<-hw5];exact qea _ y _
       have bk5:Below wr.heap.size wr w5:=by rw[<-hw5];exact(Below.refl _ _).alloc (Nat.le_refl _) _
       obtain⟨y0,y1,y2,y3,y4,y5,y6,y7,y8,y9,yA⟩:=ChgC.cells R1;have hl1:=qa0 R1;have HR1:=hid R1;have HB5:=hid (HBJ.out.trans (bk5.mono HBJ.out.size));have R05:=qac bk5 hl0j HR0J.out;obtain⟨c0,c1,c2,c3,c4,c5,c6,c7,c8,c9,cA⟩:=ChgC.cells R05;have HR05:=hid R05;have hl05:=Nat.lt_of_lt_of_le hl0j bk5.size;obtain⟨yb,hyb⟩:∃yb,yb=wr.heap.size:=⟨_,rfl⟩;rw[<-hyb]at HR1 y0 y1 y2 y3 y4 y5 y6 y7 y8 y9 yA hl1 ⊢;have HYV:=hid y.v_eq;clear hw5 R1 R05 bk5 hyb k0 k1 k2 k3 k4 k5 k6 k7 k8 k9 kA HR0J hl0j;go_wp2_with fail;have TM:=qdf x w5;rw[HXV.out]at TM;refine TM.mono ?_;rintro e w6⟨rfl,hb6⟩;have R1:=qac hb6 hl1 HR1.out;have R0:=qac hb6 hl05 HR05.out;obtain⟨y0,y1,y2,y3,y4,y5,y6,y7,y8,y9,yA⟩:=ChgC.cells R1;obtain⟨c0,c1,c2,c3,c4,c5,c6,c7,c8,c9,cA⟩:=ChgC.cells R0;have hl1:=qa0 R1;have hl0:=qa0 R0;have HR1:=hid R1;have HR0:=hid R0;have HB6:=hid (HB5.out.trans (hb6.mono HB5.out.size));clear hb6 R1 R0 HB5 HR05 hl05 TM;cases hmx:qcf x with
       |true =>
        have b5:(x.kind==5)=false:=by
         rw[qcf,Bool.or_eq_true,beq_iff_eq,beq_iff_eq]at hmx;rw[beq_eq_false_iff_ne];rcases hmx with h|h <;> rw[h] <;> decide
        have HMX:=hid hmx;have HB5:=hid b5;clear hmx;go_wp2_with fail;have TM:=qdf y w6;rw[HYV.out]at TM;refine TM.mono ?_;rintro e w7⟨rfl,hb7⟩;have R1:=qac hb7 hl1 HR1.out;have R0:=qac hb7 hl0 HR0.out;obtain⟨y0,y1,y2,y3,y4,y5,y6,y7,y8,y9,yA⟩:=ChgC.cells R1;obtain⟨c0,c1,c2,c3,c4,c5,c6,c7,c8,c9,cA⟩:=ChgC.cells R0;have hl1:=qa0 R1;have hl0:=qa0 R0;have HB6:=hid (HB6.out.trans (hb7.mono HB6.out.size));clear hb7 R1 R0 HR1 HR0 TM;cases hmy:qcf y with
        |true =>
         have HMY:=hid hmy;clear hmy;cases hke:(x.key.toList==y.key.toList)with
         |true =>
          have hcl:qci x y=true:=by rw[qci,HMX.out,HMY.out,hke];rfl
          have HCL:=hid hcl;clear hcl;go_wp2_with fail;go_ret;exact⟨false,rfl,HB4.out.trans (HB6.out.mono HB4.out.size),(λh0=>by cases h0),λ_ h=>by have:=(h.2.2 k hlt).2 j hjl;rw[<-HX.out,<-HY.out,HCL.out]at this;cases this⟩
         |false =>
          have hcl:qci x y=false:=by rw[qci,HMX.out,HMY.out,hke,b5];rfl
          have HCL:=hid hcl;clear hcl;go_wp2_with fail;exact⟨⟨j+1,by omega,by go_num,λi hi h2=>(by
           by_cases hik:i=j
           · subst hik;rw[<-HY.out];exact HCL.out
           · exact HNJ.out i hi (by omega)),HB6.out⟩,by simp[intOf];omega⟩
        |false =>
         have HMY:=hid hmy;clear hmy;have hcl:qci x y=false:=by rw[qci,HMX.out,HMY.out,b5];rfl
         have HCL:=hid hcl;clear hcl;go_wp2_with fail;exact⟨⟨j+1,by omega,by go_num,λi hi h2=>(by
          by_cases hik:i=j
          · subst hik;rw[<-HY.out];exact HCL.out
          · exact HNJ.out i hi (by omega)),HB6.out⟩,by simp[intOf];omega⟩
       |false =>
        have HMX:=hid hmx;clear hmx;cases h5:(x.kind==5)with
        |false =>
         have hcl:qci x y=false:=by rw[qci,HMX.out,h5];rfl
         have HCL:=hid hcl;clear hcl;go_wp2_with fail;exact⟨⟨j+1,by omega,by go_num,λi hi h2=>(by
          by_cases hik:i=j
          · subst hik;rw[<-HY.out];exact HCL.out
          · exact HNJ.out i hi (by omega)),HB6.out⟩,by simp[intOf];omega⟩
        |true =>
         cases h6:(y.kind==5)with
         |false =>
          have hcl:qci x y=false:=by rw[qci,HMX.out,h5,h6];rfl
          have HCL:=hid hcl;clear hcl;go_wp2_with fail;exact⟨⟨j+1,by omega,by go_num,λi hi h2=>(by
           by_cases hik:i=j
           · subst hik;rw[<-HY.out];exact HCL.out
           · exact HNJ.out i hi (by omega)),HB6.out⟩,by simp[intOf];omega⟩
         |true =>
          have hcl:qci x y=true:=by rw[qci,HMX.out,h5,h6];rfl
          have HCL:=hid hcl;clear hcl;go_wp2_with fail;go_ret;exact⟨false,rfl,HB4.out.trans (HB6.out.mono HB4.out.size),(λh0=>by cases h0),λ_ h=>by have:=(h.2.2 k hlt).2 j hjl;rw[<-HX.out,<-HY.out,HCL.out]at this;cases this⟩
     · obtain rfl:j=k:=by omega
       clear hbj;go_wp2_with fail;exact⟨⟨j+1,by omega,by go_num,λi hi h2=>(by
        by_cases hik:i=j
        · subst hik
          exact⟨by rw[<-HX.out];exact HKO.out,λq hq=>by rw[<-HX.out];exact HNJ.out q (by omega) hq⟩
        · exact HNO.out i hi (by omega)),HB4.out.trans (HBJ.out.mono HB4.out.size)⟩,by simp[intOf];omega⟩
  · obtain rfl:k=l.length:=by omega
    clear hbr;go_wp2_with fail;go_ret;exact⟨true,rfl,HBR.out,λ_=>⟨H1.out,H3.out,λi hi=>HNO.out i hi hi⟩,λh0=>by cases h0⟩
end
end Go.Proofs.YtecikkjbnkhhkaaGreat
