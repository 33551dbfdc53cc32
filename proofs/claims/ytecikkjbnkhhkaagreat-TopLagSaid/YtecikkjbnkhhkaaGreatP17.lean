/- A part of the walk. -/
import Derived.Test.YtecikkjbnkhhkaaGreatP15
import Derived.Test.YtecikkjbnkhhkaaGreatP16
import Derived.Lib.BufferRead
import Derived.Lib.SlBytesRow
namespace Go.Proofs.YtecikkjbnkhhkaaGreat
open _root_.Go.Proofs.Tryz
set_option maxHeartbeats 8000000
set_option maxRecDepth 100000
section
open Go.RowKit
def qd3(c:Int):qan:={cls:=c,taken:=List.replicate 8 false,n:=0,ht:=rfl}
theorem qrx:(prog.info? 223).map (λi=>(i.zero.map Value.cells,i.size,i.bytes))=some (some (qd3 0).enc.toArray,10,24):=by kernel_rfl
theorem qq6(z:Array Value)(n q r:Nat)(hz:z.size=10)(hr:r<10)(hq:q<n):(madeCells z (n*10))[q*10+r]? =z[r]? :=by
 have h1:q*10+r<n*10:=by omega
 unfold madeCells;rw[Array.getElem?_map,Array.getElem?_range,if_pos h1,Option.map_some,hz,show(q*10+r)%10=r by omega,getElem!_pos z r (by omega),Array.getElem?_eq_getElem (by omega)]
def qbs(n k:Nat):List qan:=List.replicate k (qd3 (-1))++List.replicate (n-k) (qd3 0)
theorem qav{n k:Nat}(h:k<=n):(qbs n k).length=n:=by simp[qbs];omega
theorem qn0{n k:Nat}(h:k<n):(qbs n k)[k]'(by rw[qav (by omega)];exact h)=qd3 0:=by
 simp only[qbs];rw[List.getElem_append_right (by simp)];simp
theorem ql2{n k:Nat}(h:k<n):(qbs n k).set k (qd3 (-1))=qbs n (k+1):=by
 unfold qbs;rw[List.set_append_right _ _ (by simp),List.length_replicate,Nat.sub_self,show n-k=(n-(k+1))+1 by omega,List.replicate_succ,List.set_cons_zero,List.replicate_succ',List.append_assoc];rfl
theorem qna(n:Nat)(w:World)(h1:1<=n)(h2:n<=32):Calls prog 71 #[.int .i64 (n:Int)] w λe w'=>e=.returned (.tuple #[.pointer (some ⟨w.heap.size+1,0,none⟩),.int .i64 0])/\qb8 w' w.heap.size (w.heap.size+1) w.heap.size (List.replicate n (qd3 (-1)))/\Below w.heap.size w w':=by
 have g1:¬(n:Int)<1:=by omega
 have g2:¬(32:Int)<(n:Int):=by omega
 obtain⟨i,hi,hz,hs,hby⟩:∃i,prog.info? 223=some i/\i.zero.map Value.cells=some (qd3 0).enc.toArray/\i.size=10/\i.bytes=24:=by
  have:=qrx;cases hq:prog.info? 223 with
  |none=>rw[hq]at this;cases this
  |some i=>rw[hq]at this;simp at this;exact⟨i,rfl,by simpa using this⟩
 obtain⟨z,hz1,hz2⟩:∃z,i.zero=some z/\z.cells=(qd3 0).enc.toArray:=by
  cases hq:i.zero with
  |none=>rw[hq]at hz;cases hz
  |some z=>rw[hq]at hz;simp at hz;exact⟨z,rfl,hz⟩
 have MK:=λW=>run_make (P:=prog) W 218 223 i z underlying218 hi hz1 .i64 .i64 (n:Int) (n:Int) (by omega) (Int.le_refl _) (by rw[hby];omega) (by omega)
 simp only[Int.toNat_natCast,hs,hz2]at MK;clear hz1 hz2 hz hs hby hi;go_enter func71,ntmps71;go_wp2_with fail;refine(ql1 258 w (by omega) (by omega)).mono ?_;rintro e w1⟨rfl,rfl⟩;rw[show(((258-2)/8:Nat):Int)=32 from rfl];go_upto_region 4 with fail;generalize hw2:World.alloc (World.alloc w1 _) _=w2;have HD:Hid (qb8 w2 w1.heap.size (w1.heap.size+1) w1.heap.size (qbs n 0)):=hid (by
  refine⟨?_,?_,⟨by omega,Nat.le_refl _,by omega⟩,by rw[qav (by omega)];omega⟩
  · rw[qav (by omega),<-hw2]
    exact(qa2 _ _ _).trans (by rw[if_pos (by simp)])
  · rw[qav (by omega)]
    refine⟨by rw[qav (by omega)];exact Nat.le_refl _,by unfold maxLen;omega,.inr ⟨w1.heap.size,0,madeCells (qd3 0).enc.toArray (n*10),rfl,Nat.le_refl _,?_,by rw[size_madeCells];omega,λj u hu=>?_⟩⟩
    · rw[<-hw2]
      exact(Below.heap_alloc _ _ _ (by simp)).trans ((qa2 _ _ _).trans (if_pos rfl))
    · have hlt:=(List.getElem?_eq_some_iff.1 hu).1
      rw[qao qan.enc_len,qav (by omega)]at hlt
      obtain⟨q,r,rfl,hq,hr⟩:∃q r,j=q*10+r/\q<n/\r<10:=⟨j/10,j%10,by omega,by omega,by omega⟩
      rw[qb0 qan.enc_len _ q (by rw[qav (by omega)];exact hq) r hr]at hu
      rw[Nat.zero_add,qq6 _ n q r (by rw[List.size_toArray,qan.enc_len]) hr hq,List.getElem?_toArray]
      have:(qbs n 0)[q]'(by rw[qav (by omega)];exact hq)=qd3 0:=by simp[qbs]
      rw[this]at hu
      exact hu)
 have b2:Below w1.heap.size w1 w2:=by rw[<-hw2];exact((Below.refl _ _).alloc (Nat.le_refl _) _).alloc (by simp) _
 have HB:=hid b2;have hp2:=qa0 HD.out.box;have p0:=cell_of_row w2 _ 0 _ _ _ HD.out.box;rw[qav (by omega)]at p0;clear hw2 b2 MK;go_wp2_with fail;clear p0 hp2;go_loopw [5,22] (λ_ v22 wr=>∃k:Nat,k<=n/\v22=.int .i64 k/\qb8 wr w1.heap.size (w1.heap.size+1) w1.heap.size (qbs n k)/\Below w1.heap.size w1 wr) (λ_ v22 _=>n-(intOf v22).toNat)
 case atStart=>exact⟨0,by omega,rfl,HD.out,HB.out⟩
 case round =>
  obtain⟨k,hk,rfl,hP,hb⟩:=hrel;have HP:=hid hP;have HBR:=hid hb;have hp3:=qa0 hP.box;have p0:=cell_of_row wr _ 0 _ _ _ hP.box;rw[qav hk]at p0;by_cases hlt:k<n
  · have hlti:(k:Int)<(n:Int):=by omega
    have hkl:k<(qbs n k).length:=by rw[qav hk];exact hlt
    have hs:=hP.slab hkl;have c0:=hs.cls;have f0:=hs.fr (k*10);have hl:=hs.lt;have h1:=hP.rows.setPart qan.enc_len hkl (qd3 (-1)) 0 [.int .i64 (-1)] (by simp) (λj hj=>by rw[qn0 hlt];exact qan.cls_same (qd3 0) (-1) j hj) (qeu rfl);rw[ql2 hlt,Nat.zero_add,Nat.add_zero,qav hk]at h1;have hD2:qb8 (wr.setCell ⟨w1.heap.size,k*10,none⟩ (.int .i64 (-1))) w1.heap.size (w1.heap.size+1) w1.heap.size (qbs n (k+1)):=
     ⟨by rw[qav (by omega),<-qav hk];exact(Below.heap_setCell _ _ _ _ hP.lo.2.2).trans hP.box,by rw[qav (by omega)];exact h1,hP.lo,by rw[qav (by omega)];omega⟩
    have HD2:=hid hD2;clear hP hb hs h1 hD2;go_wp2_with fail;exact⟨⟨k+1,by omega,by go_num,HD2.out,HBR.out.setCell (Nat.le_refl _) _⟩,by simp[intOf];omega⟩
  · obtain rfl:k=n:=by omega
    clear hP hb;go_wp2_with fail;go_ret2;have he:qbs k k=List.replicate k (qd3 (-1)):=by simp[qbs]
    exact⟨rfl,by rw[<-he];exact HP.out,HBR.out⟩
end
section
open Go.RowKit
structure ChgC where
 kind:Int
 key:ByteArray
 val:ByteArray
 had:Bool
 old:qa3
 line:Int
 cls:Int
def ChgC.enc(x:ChgC):List Value:=[.int .i64 x.kind,.string x.key,.string x.val,.bool x.had,.string x.old.key,.int .u64 (x.old.id:Int),.int .u64 (x.old.ver:Int),.int .i64 x.old.line,.int .i64 x.old.cls,.int .i64 x.line,.int .i64 x.cls]
theorem ChgC.enc_len(x:ChgC):x.enc.length=11:=rfl
theorem ChgC.enc_one(x:ChgC):∀u∈x.enc,u.oneCell'=true:=by
 intro u hu;simp only[ChgC.enc,List.mem_cons,List.not_mem_nil,or_false]at hu;rcases hu with rfl|rfl|rfl|rfl|rfl|rfl|rfl|rfl|rfl|rfl|rfl <;> rfl
def ChgC.v(x:ChgC):Value:=.agg x.enc.toArray
def qcf(x:ChgC):Bool:=x.kind==2||x.kind==3
def qbv(x:ChgC):Bool:=x.kind != 3||x.had
theorem qdf(x:ChgC)(w:World):Calls prog 338 #[x.v] w λe w'=>e=.returned (.bool (qcf x))/\Below w.heap.size w w':=by
 obtain⟨kind,key,val,had,old,line,cls⟩:=x;unfold ChgC.v ChgC.enc;go_enter func338,ntmps338;go_wp2;all_goals(go_ret;exact⟨qc9 (by simp[qcf, *]),(by repeat(first|exact Below.refl _ _|assumption|refine Below.drew ?_|refine qa1 ?_ _|refine Below.alloc ?_ (by first|omega|simp <;> omega) _|refine Below.setCell ?_ (by first|omega|simp <;> omega) _))⟩)
theorem qf4(x:ChgC)(w:World):Calls prog 308 #[x.v] w λe w'=>e=.returned (.bool (qbv x))/\Below w.heap.size w w':=by
 obtain⟨kind,key,val,had,old,line,cls⟩:=x;unfold ChgC.v ChgC.enc;go_enter func308,ntmps308;go_wp2;all_goals(go_ret;exact⟨qc9 (by simp[qbv, *]),(by repeat(first|exact Below.refl _ _|assumption|refine Below.drew ?_|refine qa1 ?_ _|refine Below.alloc ?_ (by first|omega|simp <;> omega) _|refine Below.setCell ?_ (by first|omega|simp <;> omega) _))⟩)
def qca(x:ChgC)(id ver e:Nat):BlkC:=
 if x.kind=2 then⟨x.cls,1,id,ver,e,x.key,x.val⟩else if x.kind=4 then⟨x.cls,2,id,ver,e,ByteArray.empty,x.val⟩else⟨0,3,id,ver,e,ByteArray.empty,ByteArray.empty⟩
theorem qoz(x:ChgC)(id ver e:Nat)(w:World):Calls prog 343 #[x.v,.int .u64 (id:Int),.int .u64 (ver:Int),.int .u64 (e:Int)] w λr w'=>r=.returned (qca x id ver e).v/\Below w.heap.size w w':=by
 obtain⟨kind,key,val,had,old,line,cls⟩:=x;unfold ChgC.v ChgC.enc;by_cases h2:kind=2
 · have hl:qca ⟨kind,key,val,had,old,line,cls⟩ id ver e=⟨cls,1,id,ver,e,key,val⟩:=if_pos h2
   rw[hl,h2];clear hl h2;go_enter func343,ntmps343;go_upto_region 5 with fail;go_region;all_goals
    go_wp2_with fail;refine bodyPost_ret (v:=(⟨cls,1,id,ver,e,key,val⟩:BlkC).v) (by simp[results,results343,go_sem,BlkC.v,BlkC.enc]) rfl ⟨rfl,(by repeat(first|exact Below.refl _ _|assumption|refine Below.drew ?_|refine qa1 ?_ _|refine Below.alloc ?_ (by first|omega|simp <;> omega) _|refine Below.setCell ?_ (by first|omega|simp <;> omega) _))⟩
 by_cases h4:kind=4
 · have hl:qca ⟨kind,key,val,had,old,line,cls⟩ id ver e=⟨cls,2,id,ver,e,ByteArray.empty,val⟩:=by rw[qca,if_neg h2,if_pos h4]
   rw[hl,h4];clear hl h2 h4;go_enter func343,ntmps343;go_upto_region 7 with fail;go_region;all_goals
    go_wp2_with fail;refine bodyPost_ret (v:=(⟨cls,2,id,ver,e,ByteArray.empty,val⟩:BlkC).v) (by simp[results,results343,go_sem,BlkC.v,BlkC.enc];rfl) rfl ⟨rfl,(by repeat(first|exact Below.refl _ _|assumption|refine Below.drew ?_|refine qa1 ?_ _|refine Below.alloc ?_ (by first|omega|simp <;> omega) _|refine Below.setCell ?_ (by first|omega|simp <;> omega) _))⟩
 · have hl:qca ⟨kind,key,val,had,old,line,cls⟩ id ver e=⟨0,3,id,ver,e,ByteArray.empty,ByteArray.empty⟩:=by rw[qca,if_neg h2,if_neg h4]
   rw[hl];clear hl;go_enter func343,ntmps343;go_wp2_with fail;refine bodyPost_ret (v:=(⟨0,3,id,ver,e,ByteArray.empty,ByteArray.empty⟩:BlkC).v) (by simp[results,results343,go_sem,BlkC.v,BlkC.enc];rfl) rfl ⟨rfl,(by repeat(first|exact Below.refl _ _|assumption|refine Below.drew ?_|refine qa1 ?_ _|refine Below.alloc ?_ (by first|omega|simp <;> omega) _|refine Below.setCell ?_ (by first|omega|simp <;> omega) _))⟩
section
variable {g:Own8}{w:World}{a:Nat}{P:qag}{M:qa4}
theorem qnb(h:qa6 g w a P M):Calls prog 342 #[.pointer (some ⟨a,0,none⟩)] w λe w'=>e=.returned (.tuple #[.int .u64 (M.id:Int),.int .u64 (M.ver:Int)])/\∃n,w'=w.drewN n:=by
 have q8:=h.cells.2.2.2.2.2.2.2.2.1;have q9:=h.cells.2.2.2.2.2.2.2.2.2.1;have hl:=qa0 h.box.1;clear h;go_enter func342,ntmps342;go_upto_region 3 with fail;have L8:=λq=>qe7 a 8 (M.id:Int) (w.drewN q) q8 hl
 have L9:=λq=>qe7 a 9 (M.ver:Int) (w.drewN q) q9 hl
 go_quiet (first|exact Calls.quiet_of_same (L8 _)|exact Calls.quiet_of_same (L9 _));go_wp2_with fail;go_ret2;exact⟨rfl,_,rfl⟩
end
end
section
open Go.RowKit
def qi9(a t:Nat)(f:qa5):List Value:=[.pointer (some ⟨a,0,none⟩),.int .i64 (t:Int)]++f.enc
def qbq(w:World)(b a t:Nat)(ty:TypeId)(f:qa5):Prop:=w.heap[b]? =some (.cells (qi9 a t f).toArray ty (0,0))
section
variable {w:World}{b a t:Nat}{ty:TypeId}{f:qa5}
theorem qbq.lt(h:qbq w b a t ty f):b<w.heap.size:=qa0 h
theorem qbq.fr(h:qbq w b a t ty f)(j:Nat):w.frozen? ⟨b,j,none⟩=false:=frozen_of_row w b j _ _ h
theorem qbq.c(h:qbq w b a t ty f)(j:Nat){v:Value}(hv:(qi9 a t f)[j]? =some v):w.cell? ⟨b,j,none⟩=some v:=
 (cell_of_row w b j _ _ _ h).trans (by rw[List.getElem?_toArray];exact hv)
theorem qbq.set(h:qbq w b a t ty f)(k:Nat)(v:Value)(f':qa5)(he:(qi9 a t f).set k v=qi9 a t f'):qbq (w.setCell ⟨b,k,none⟩ v) b a t ty f':=by
 have q:=heap_setCell_same w b k _ _ v h;unfold qbq;rw[<-he,<-List.setIfInBounds_toArray];exact q
end
def SlG(g:Own8){α:Type}(enc:α->List Value)(k:Nat)(w:World)(lo b:Nat)(A:Option Addr)(n c:Nat)(l:List α):Prop:=Sl enc k w w.heap.size A n c l/\(l=[]\/∃x off,A=some ⟨x,off,none⟩/\g x=0/\x≠b/\x<lo)
def RowG(g:Own8){α:Type}(enc:α->List Value)(e:TypeId)(k:Nat)(w:World)(lo:Nat)(A:Option Addr)(n c:Nat)(l:List α):Prop:=Own enc e k w lo A c l/\n=l.length/\qc8 g 0 A c
section
variable {α:Type}{enc:α->List Value}{e:TypeId}{k lo b n c:Nat}{A:Option Addr}{l:List α}{g g':Own8}{w w':World}
theorem SlG.keep(h:SlG g enc k w lo b A n c l)(hs:w.heap.size<=w'.heap.size)(hb:∀j,j<w.heap.size->g j=0->j≠b->j<lo->w'.heap[j]? =w.heap[j]?)(hg:∀j,j<w.heap.size->g' j=g j):SlG g' enc k w' lo b A n c l:=by
 obtain⟨⟨h1,h2,h3,h4⟩,h5⟩:=h;rcases h5 with h5|⟨x,off,rfl,h6,h7,h8⟩
 · subst h5
   exact⟨⟨Arr.nil,h2,h3,h4⟩,.inl rfl⟩
 · rcases h1 with h1|⟨b',off',hA,hlt,hc⟩
   · subst h1
     exact⟨⟨Arr.nil,h2,h3,h4⟩,.inl rfl⟩
   · cases hA
     refine⟨⟨.inr ⟨x,off,rfl,by omega,λi hi j u hu=>?_⟩,h2,h3,h4⟩,.inr ⟨x,off,rfl,(hg x hlt).trans h6,h7,h8⟩⟩;exact(World.cell?_of_block (w:=w) (hb x hlt h6 h7 h8)).trans (hc i hi j u hu)
theorem RowG.keep(h:RowG g enc e k w lo A n c l)(hb:∀j,j<w.heap.size->g j=0->some j=qa8 A c->w'.heap[j]? =w.heap[j]?)(hg:∀j,j<w.heap.size->g' j=g j):RowG g' enc e k w' lo A n c l:=by
 obtain⟨h1,h2,h3⟩:=h;have hr:=qcg h1;refine⟨h1.keep2 ?_,h2,λx hx=>(hg x (hr x hx)).trans (h3 x hx)⟩;by_cases hc:c=0
 · exact .inl hc
 · refine .inr λx off hA hlt=>hb x hlt (h3 x ?_) ?_
   · rw[qa8,if_neg hc,hA];rfl
   · rw[qa8,if_neg hc,hA];rfl
theorem RowG.nil:RowG g enc e k w lo none 0 0 []:=⟨Own.none_,rfl,λx hx=>by simp[qa8]at hx⟩
theorem SlG.nil:SlG g enc k w lo b none 0 0 []:=⟨Sl.nil,.inl rfl⟩
end
structure FrD where
 gr:List qa7
 bs:List UInt8
 ps:List qas
 hs:List Bool
def qoe(ty:TypeId):Prop:=ty=281\/ty=287\/ty=299
structure WSt(g:Own8)(w:World)(lo a:Nat)(P:qag)(M:qa4)(b t:Nat)(ty:TypeId)(f:qa5)(d:FrD):Prop where
 ar:qa6 g w a P M
 box:qbq w b a t ty f
 gb:g b=0
 hty:qoe ty
 grp:SlG g qa7.enc 5 w lo b f.call.gA f.call.gn f.call.gc d.gr
 byt:RowG g byE 5 1 w lo f.bA f.bn f.bc d.bs
 prt:RowG g qas.enc 330 8 w lo f.pA f.pn f.pc d.ps
 hit:RowG g bitE 4 1 w lo f.hA f.hn f.hc d.hs
structure ExtB(lo b:Nat)(g g':Own8)(w w':World):Prop where
 old:∀j,j<w.heap.size->g' j=g j
 only:Only (λj=>0<g j\/lo<=j\/j=b) w w'
theorem ExtB.refl(lo b:Nat)(g:Own8)(w:World):ExtB lo b g g w w:=⟨λ_ _=>rfl,Only.refl _ _⟩
theorem ExtB.of_ext{lo b:Nat}{g g':Own8}{w w':World}(h:Ext g g' w w'):ExtB lo b g g' w w':=⟨h.old,h.only.mono λ_=>.inl⟩
theorem ExtB.trans{lo b:Nat}{g g1 g2:Own8}{w w1 w2:World}(h:ExtB lo b g g1 w w1)(k:ExtB lo b g1 g2 w1 w2):ExtB lo b g g2 w w2:=by
 have hs:=h.only.size;refine⟨λj hj=>(k.old j (by omega)).trans (h.old j hj),⟨k.only.os.trans h.only.os,k.only.tape.trans h.only.tape,k.only.output.trans h.only.output,Nat.le_trans hs k.only.size,λj hj hn=>?_⟩⟩;exact(k.only.block j (by omega) (by rw[h.old j hj];exact hn)).trans (h.only.block j hj hn)
theorem ExtB.below{lo b:Nat}{g:Own8}{w w':World}(h:Below w.heap.size w w'):ExtB lo b g g w w':=.of_ext (Ext.below h)
theorem ExtB.set{lo b:Nat}{g:Own8}{w:World}(o:Nat)(v:Value):ExtB lo b g g w (w.setCell ⟨b,o,none⟩ v):=⟨λ_ _=>rfl,(Only.refl _ w).setCell _ _ (.inr (.inr rfl))⟩
theorem ExtB.sets{lo b:Nat}{g:Own8}{w:World}(o:Nat)(vs:List Value):ExtB lo b g g w (w.setCells b o vs):=by
 have hs:=qam b vs o w;exact⟨λ_ _=>rfl,⟨hs.1,hs.2.1,hs.2.2.1,by rw[hs.2.2.2];exact Nat.le_refl _,λj _ hn=>qaa b vs o w j (λh=>hn (.inr (.inr h)))⟩⟩
theorem ExtB.grown{lo b:Nat}{g:Own8}{w w':World}{row:Option Nat}(h:w.grownBy w' row)(hr:∀j,row=some j->lo<=j):ExtB lo b g g w w':=⟨λ_ _=>rfl,Only.grown h λj hj=>.inr (.inl (hr j hj))⟩
theorem ExtB.ext{lo b:Nat}{g0 g g':Own8}{w0 w w':World}(e:Ext g0 g w0 w)(h:ExtB lo b g g' w w')(hb:w0.heap.size<=b)(hlo:w0.heap.size<=lo):Ext g0 g' w0 w':=by
 have hs:=e.only.size;refine⟨λj hj=>(h.old j (by omega)).trans (e.old j hj),⟨h.only.os.trans e.only.os,h.only.tape.trans e.only.tape,h.only.output.trans e.only.output,Nat.le_trans hs h.only.size,λj hj hn=>?_⟩⟩;exact(h.only.block j (by omega) (by rw[e.old j hj];omega)).trans (e.only.block j hj hn)
def qyc(f f':qa5):Prop:=(f'.call.gA,f'.call.gn,f'.call.gc)=(f.call.gA,f.call.gn,f.call.gc)/\(f'.bA,f'.bn,f'.bc)=(f.bA,f.bn,f.bc)/\(f'.pA,f'.pn,f'.pc)=(f.pA,f.pn,f.pc)/\(f'.hA,f'.hn,f'.hc)=(f.hA,f.hn,f.hc)
section
variable {g g':Own8}{w w':World}{lo a b t:Nat}{P:qag}{M M':qa4}{ty:TypeId}{f f':qa5}{d d':FrD}
theorem qa6.set0(h:qa6 g w a P M)(hb:g b=0)(o:Nat)(v:Value):qa6 g (w.setCell ⟨b,o,none⟩ v) a P M:=
 h.nobody ((Only.refl _ w).setCell _ _ (.inl hb))
theorem qa6.sets0(h:qa6 g w a P M)(hb:g b=0)(o:Nat)(vs:List Value):qa6 g (w.setCells b o vs) a P M:=by
 have hs:=qam b vs o w;exact h.nobody ⟨hs.1,hs.2.1,hs.2.2.1,by rw[hs.2.2.2];exact Nat.le_refl _,λj _ hn=>qaa b vs o w j (λe=>hn (.inl (e ▸ hb)))⟩
theorem qoe.ne(h:qoe ty):5≠ty/\330≠ty/\4≠ty:=by
 rcases h with rfl|rfl|rfl <;> decide
theorem WSt.ext(h:WSt g w lo a P M b t ty f d)(ar:qa6 g' w' a P M')(e:Ext g g' w w'):WSt g' w' lo a P M' b t ty f d:=
 ⟨ar,(e.nobody h.box.lt h.gb).trans h.box,(e.old b h.box.lt).trans h.gb,h.hty,h.grp.keep e.only.size (λ_j hj h0 _ _=>e.nobody hj h0) e.old,
  h.byt.keep (λ_j hj h0 _=>e.nobody hj h0) e.old,h.prt.keep (λ_j hj h0 _=>e.nobody hj h0) e.old,h.hit.keep (λ_j hj h0 _=>e.nobody hj h0) e.old⟩
theorem WSt.below(h:WSt g w lo a P M b t ty f d)(hb:Below w.heap.size w w'):WSt g w' lo a P M b t ty f d:=h.ext (h.ar.below hb) (Ext.below hb)
theorem WSt.drewN(h:WSt g w lo a P M b t ty f d)(n:Nat):WSt g (w.drewN n) lo a P M b t ty f d:=h.below (qa1 (Below.refl _ _) n)
theorem WSt.drew(h:WSt g w lo a P M b t ty f d):WSt g w.drew lo a P M b t ty f d:=h.below (Below.refl _ _).drew
theorem WSt.sets(h:WSt g w lo a P M b t ty f d)(k:Nat)(vs:List Value)(f':qa5)(hw:qbq (w.setCells b k vs) b a t ty f')(hs:qyc f f'):WSt g (w.setCells b k vs) lo a P M b t ty f' d:=by
 obtain⟨h1,h2,h3,h4⟩:=hs;simp only[Prod.mk.injEq]at h1 h2 h3 h4;have hne:=h.hty.ne;have hk:∀j,j≠b->(w.setCells b k vs).heap[j]? =w.heap[j]? :=λj hj=>qaa b vs k w j hj
 have hz:=(qam b vs k w).2.2.2;refine⟨h.ar.sets0 h.gb k vs,hw,h.gb,h.hty,?_,?_,?_,?_⟩
 · rw[h1.1,h1.2.1,h1.2.2]
   exact h.grp.keep (by rw[hz];exact Nat.le_refl _) (λj _ _ hj _=>hk j hj) λ_ _=>rfl
 · rw[h2.1,h2.2.1,h2.2.2]
   exact h.byt.keep (λj _ _ hr=>hk j λe=>h.byt.1.notBox h.box hne.1 (e ▸ hr)) λ_ _=>rfl
 · rw[h3.1,h3.2.1,h3.2.2]
   exact h.prt.keep (λj _ _ hr=>hk j λe=>h.prt.1.notBox h.box hne.2.1 (e ▸ hr)) λ_ _=>rfl
 · rw[h4.1,h4.2.1,h4.2.2]
   exact h.hit.keep (λj _ _ hr=>hk j λe=>h.hit.1.notBox h.box hne.2.2 (e ▸ hr)) λ_ _=>rfl
theorem WSt.set(h:WSt g w lo a P M b t ty f d)(k:Nat)(v:Value)(f':qa5)(he:(qi9 a t f).set k v=qi9 a t f')(hs:qyc f f'):WSt g (w.setCell ⟨b,k,none⟩ v) lo a P M b t ty f' d:=
 h.sets k [v] f' (h.box.set k v f' he) hs
theorem qe4{α:Type}{enc:α->List Value}{e:TypeId}{k lo:Nat}{l:List α}{A:Option Addr}{c:Nat}{w:World}(ho:Own enc e k w lo A c l):∀j,qa8 A c=some j->lo<=j:=λb hb=>by
 rcases ho.lt with h0|⟨b',off,hA,hlo,_⟩
 · rw[qa8,if_pos h0]at hb;cases hb
 · rw[qa8]at hb
   split at hb
   · cases hb
   · rw[hA]at hb;cases hb;exact hlo
theorem qef{α:Type}{enc:α->List Value}{e:TypeId}{k lo:Nat}{l:List α}{A:Option Addr}{c:Nat}{w:World}(ho:Own enc e k w lo A c l){j:Nat}(hj:qa8 A c=some j):∃cur,w.heap[j]? =some (.cells cur e (0,0)):=by
 rcases ho.2.2 with h0|⟨b',off,cur,hA,_,hh,_⟩
 · rw[qa8,if_pos h0]at hj;cases hj
 · rw[qa8]at hj
   split at hj
   · cases hj
   · rw[hA]at hj;cases hj;exact⟨cur,hh⟩
theorem WSt.newBytes(h:WSt g w lo a P M b t ty f d){A':Option Addr}{c' n':Nat}{bs':List UInt8}(hg:w.grownBy w' (qa8 f.bA f.bc))(hown:Own byE 5 1 w' lo A' c' bs')(hn:n'=bs'.length)(hloc:A'=f.bA/\c'=f.bc\/∃x,A'=some ⟨x,0,none⟩/\w.heap.size<=x):
 WSt g (w'.setCell ⟨b,21,none⟩ (.slice A' n' c')) lo a P M b t ty {f with bA:=A',bn:=n',bc:=c'} {d with bs:=bs'}/\ExtB lo b g g w (w'.setCell ⟨b,21,none⟩ (.slice A' n' c')):=by
 have hne:=h.hty.ne;have hrl:=qcg h.byt.1;have hrb:∀j,qa8 f.bA f.bc=some j->j≠b:=λj hj e=>h.byt.1.notBox h.box hne.1 (by rw[<-e];exact hj.symm)
 have hk:∀j,j<w.heap.size->qa8 f.bA f.bc≠some j->w'.heap[j]? =w.heap[j]? :=λj hj hr=>hg.block j hj (λe=>hr e.symm)
 have box1:qbq w' b a t ty f:=(hk b h.box.lt (λe=>hrb b e rfl)).trans h.box;have bs1:qbq (w'.setCell ⟨b,21,none⟩ (.slice A' n' c')) b a t ty {f with bA:=A',bn:=n',bc:=c'}:=box1.set 21 _ _ rfl;have ho:∀j,j<w.heap.size->qa8 f.bA f.bc≠some j->j≠b->(w'.setCell ⟨b,21,none⟩ (.slice A' n' c')).heap[j]? =w.heap[j]? :=λj hj hr hb=>(Below.heap_setCell _ _ _ _ hb).trans (hk j hj hr)
 have hz:w.heap.size<=(w'.setCell ⟨b,21,none⟩ (.slice A' n' c')).heap.size:=by rw[World.size_setCell];exact hg.size
 have hAr:qa6 g (w'.setCell ⟨b,21,none⟩ (.slice A' n' c')) a P M:=h.ar.nobody (Only.setCell (Only.grown hg λj hj=>.inl (h.byt.2.2 j hj)) _ _ (.inl h.gb));refine⟨⟨hAr,bs1,h.gb,h.hty,?_,⟨?_,hn,?_⟩,?_,?_⟩,(ExtB.grown hg (qe4 h.byt.1)).trans (ExtB.set _ _)⟩
 · exact h.grp.keep hz (λj hj _ hb hlt=>ho j hj (λe=>by have:=qe4 h.byt.1 j e;omega) hb) λ_ _=>rfl
 · refine hown.keep2 ?_
   by_cases hc:c'=0
   · exact .inl hc
   · refine .inr λx off hA hxlt=>Below.heap_setCell _ _ _ _ λe=>?_
     have e':x=b:=e;rcases hloc with⟨rfl,rfl⟩|⟨y,rfl,hy⟩
     · exact hrb x (by rw[qa8,if_neg hc,hA];rfl) e'
     · cases hA
       have:=h.box.lt;omega
 · intro x hx
   rcases hloc with⟨rfl,rfl⟩|⟨y,rfl,hy⟩
   · exact h.byt.2.2 x hx
   · rw[qa8]at hx
     split at hx
     · cases hx
     · cases hx;exact h.ar.far y hy
 · exact h.prt.keep (λj hj _ hr=>ho j hj (λe=>by
    obtain⟨cur,hc⟩:=qef h.byt.1 e
    exact h.prt.1.notBox hc (by decide) hr) λe=>h.prt.1.notBox h.box hne.2.1 (e ▸ hr)) λ_ _=>rfl
 · exact h.hit.keep (λj hj _ hr=>ho j hj (λe=>by
    obtain⟨cur,hc⟩:=qef h.byt.1 e
    exact h.hit.1.notBox hc (by decide) hr) λe=>h.hit.1.notBox h.box hne.2.2 (e ▸ hr)) λ_ _=>rfl
theorem WSt.callIn(h:WSt g w lo a P M b t ty f d):qbr w w.heap.size f.call d.gr:=⟨h.grp.1.1,h.grp.1.2.1,h.grp.1.2.2.1,h.grp.1.2.2.2⟩
end
def WTo(lo a:Nat)(P:qag)(b t:Nat)(ty:TypeId)(g:Own8)(w:World)(M':qa4)(f':qa5)(d':FrD)(w':World):Prop:=∃g',WSt g' w' lo a P M' b t ty f' d'/\ExtB lo b g g' w w'
theorem WTo.trans{lo a b t:Nat}{P:qag}{ty:TypeId}{g g1:Own8}{w w1 w':World}{M':qa4}{f':qa5}{d':FrD}(e:ExtB lo b g g1 w w1)(h:WTo lo a P b t ty g1 w1 M' f' d' w'):WTo lo a P b t ty g w M' f' d' w':=by
 obtain⟨g2,h1,h2⟩:=h;exact⟨g2,h1,e.trans h2⟩
end
section
open Go.RowKit
structure qap where
 thread:Int
 call:qa7
 code:Int
 found:Bool
 vl:ByteArray
 hA:Option Addr
 hn:Nat
 hc:Nat
 aep:Nat
 began:Int
 ended:Int
def qap.enc(x:qap):List Value:=[.int .i64 x.thread,.int .i64 x.call.kind,.string x.call.key,.string x.call.val,.string x.call.tx,.slice x.call.gA x.call.gn x.call.gc,.int .i64 x.code,.bool x.found,.string x.vl,.slice none 0 0,.slice x.hA x.hn x.hc,.int .u64 (x.aep:Int),.int .i64 x.began,.int .i64 x.ended]
theorem qap.enc_len(x:qap):x.enc.length=14:=rfl
theorem qap.enc_one(x:qap):∀u∈x.enc,u.oneCell'=true:=by
 intro u hu;simp only[qap.enc,List.mem_cons,List.not_mem_nil,or_false]at hu;rcases hu with rfl|rfl|rfl|rfl|rfl|rfl|rfl|rfl|rfl|rfl|rfl|rfl|rfl|rfl <;> rfl
theorem qqt(w:World):Calls prog 66 #[.slice none 0 0] w λe w'=>e=.returned (.slice none 0 0)/\w'=w:=by
 have hnil:=λW:World=>Lib.run_eql_slice_nil (P:=prog) W 45 75 none 0 0 0 0 underlying45
 go_enter func66,ntmps66;go_wp2;go_ret;exact⟨rfl,rfl⟩
theorem qsu:(prog.info? 330).map (λi=>(i.zero,i.size,i.bytes))=some (some (.agg #[.bool false,.string ByteArray.empty,.int .u64 0,.int .u64 0,.int .i64 0,.int .i64 0,.int .i64 0,.int .i64 0]),8,72):=by kernel_rfl
theorem qxa{ops:Array Oper}{rest:List Oper}{o:Oper}{a:Act}{Q:Exit->Act->World->Prop}(w:World)(hgd:o.guard=none)(s x:Operand)
 (ho:o.op=.call {callee:=.builtin .append,args:=#[s,x],argTypes:=#[87,87]}) {lo:Nat} {A:Option Addr} {c:Nat} {l:List qas} (hs:a.eval s=.slice A l.length c) (own:Own qas.enc 330 8 w lo A c l)
 {B:Nat} {A2:Option Addr} {m:List qas} (c2:Nat) (hx:a.eval x=.slice A2 m.length c2) (arr:Arr qas.enc 8 w B A2 m) (hb:l.length+m.length<=100000) (hlo:lo<=w.heap.size)
 (h:∀A' c' w',Own qas.enc 330 8 w' lo A' c' (l++m)->w.grownBy w' (qa8 A c)->(A'=A/\c'=c\/∃g,A'=some ⟨g,0,none⟩/\w.heap.size<=g)->wpList prog ops Q rest (a.put o.dst (.slice A' (l.length+m.length) c')) w'):
 wpList prog ops Q (o::rest) a w:=by
 obtain⟨i0,hi,hz0,hz1,hz2⟩:=info_parts qsu;exact qar w hgd s x 87 ho i0 _ 72 underlying87 hi hz0 hz1 hz2 rfl (by decide) qas.enc_len qas.enc_one hs own c2 hx arr (by unfold maxLen;omega) (by omega) hlo h
theorem qqs(l:List qas)(A:Option Addr)(c:Nat)(w:World)(hA:Arr qas.enc 8 w w.heap.size A l)(hb:l.length<=100000):
 Calls prog 180 #[.slice A l.length c] w (qux qas.enc 330 8 l w):=by
 have HB:=hid hb;clear hb;have hnil:=λW:World=>Lib.run_eql_slice_nil (P:=prog) W 87 330 A l.length c 0 0 underlying87
 cases A with
 |none =>
  go_enter func180,ntmps180;go_wp2;go_ret;have hl:l=[]:=by
   rcases hA with h|⟨b,off,h,_⟩
   · exact h
   · cases h
  subst hl;exact⟨none,0,rfl,Own.none_,Below.refl _ _⟩
 |some a =>
  go_enter func180,ntmps180;go_wp2_with(at_builtin;refine qxa (l:=[]) (m:=l) _ rfl (.tmp 5) (.tmp 6) rfl rfl (Own.zero (lo:=w.heap.size)) c rfl (hA.below ((Below.refl _ w).alloc (Nat.le_refl _) _)) (by simpa using HB.out) (by simp) ?_;intro A' c' w' hown hgr hloc);go_ret;refine⟨A',c',by simp,by simpa using hown,((Below.refl _ w).alloc (Nat.le_refl _) _).grown hgr (by simp) (λk hk=>?_)⟩;simp[qa8]at hk
theorem qwe:(prog.info? 4).map (λi=>(i.zero,i.size,i.bytes))=some (some (.bool false),1,1):=by kernel_rfl
theorem qo4{ops:Array Oper}{rest:List Oper}{o:Oper}{a:Act}{Q:Exit->Act->World->Prop}(w:World)(hgd:o.guard=none)(s x:Operand)
 (ho:o.op=.call {callee:=.builtin .append,args:=#[s,x],argTypes:=#[64,64]}) {lo:Nat} {A:Option Addr} {c:Nat} {l:List Bool} (hs:a.eval s=.slice A l.length c) (own:Own bitE 4 1 w lo A c l)
 {B:Nat} {A2:Option Addr} {m:List Bool} (c2:Nat) (hx:a.eval x=.slice A2 m.length c2) (arr:Arr bitE 1 w B A2 m) (hb:l.length+m.length<=100000) (hlo:lo<=w.heap.size)
 (h:∀A' c' w',Own bitE 4 1 w' lo A' c' (l++m)->w.grownBy w' (qa8 A c)->(A'=A/\c'=c\/∃g,A'=some ⟨g,0,none⟩/\w.heap.size<=g)->wpList prog ops Q rest (a.put o.dst (.slice A' (l.length+m.length) c')) w'):
 wpList prog ops Q (o::rest) a w:=by
 obtain⟨i0,hi,hz0,hz1,hz2⟩:=info_parts qwe;exact qar w hgd s x 64 ho i0 _ 1 underlying64 hi hz0 hz1 hz2 rfl (by decide) qfd qx7 hs own c2 hx arr (by unfold maxLen;omega) (by omega) hlo h
theorem qtk(l:List Bool)(A:Option Addr)(c:Nat)(w:World)(hA:Arr bitE 1 w w.heap.size A l)(hb:l.length<=100000):
 Calls prog 67 #[.slice A l.length c] w (qux bitE 4 1 l w):=by
 have HB:=hid hb;clear hb;have hnil:=λW:World=>Lib.run_eql_slice_nil (P:=prog) W 64 4 A l.length c 0 0 underlying64
 cases A with
 |none =>
  go_enter func67,ntmps67;go_wp2;go_ret;have hl:l=[]:=by
   rcases hA with h|⟨b,off,h,_⟩
   · exact h
   · cases h
  subst hl;exact⟨none,0,rfl,Own.none_,Below.refl _ _⟩
 |some a =>
  go_enter func67,ntmps67;go_wp2_with(at_builtin;refine qo4 (l:=[]) (m:=l) _ rfl (.tmp 5) (.tmp 6) rfl rfl (Own.zero (lo:=w.heap.size)) c rfl (hA.below ((Below.refl _ w).alloc (Nat.le_refl _) _)) (by simpa using HB.out) (by simp) ?_;intro A' c' w' hown hgr hloc);go_ret;refine⟨A',c',by simp,by simpa using hown,((Below.refl _ w).alloc (Nat.le_refl _) _).grown hgr (by simp) (λk hk=>?_)⟩;simp[qa8]at hk
theorem qp3:(prog.info? 70).map (λi=>(i.zero,i.size,i.bytes))=some (some (.agg #[.int .i64 0,.string ByteArray.empty,.string ByteArray.empty,.int .u64 0,.int .u64 0,.int .u64 0,.int .i64 0]),7,72):=by kernel_rfl
theorem qj0:(prog.info? 68).map (λi=>(i.zero,i.size,i.bytes))=some (some (.agg #[.int .i64 0,.int .i64 0,.string ByteArray.empty,.string ByteArray.empty,.string ByteArray.empty,.slice none 0 0,.int .i64 0,.bool false,.string ByteArray.empty,.slice none 0 0,.slice none 0 0,.int .u64 0,.int .i64 0,.int .i64 0]),14,192):=by kernel_rfl
end
section
open Go.RowKit
theorem Own.setCall{w:World}{lo:Nat}{b off c:Nat}{l:List qa7}(h:Own qa7.enc 40 5 w lo (some ⟨b,off,none⟩) c l){i:Nat}(hi:i<l.length)(x:qa7):
 Own qa7.enc 40 5 (w.setCells b (off+i*5) x.enc) lo (some ⟨b,off,none⟩) c (l.set i x):=by
 obtain⟨h1,h2,h3⟩:=h;rcases h3 with h3|⟨b',off',cur,hA,hlo,hh,hs,hc⟩
 · omega
 cases hA
 obtain⟨cur',g1,g2,g3,g4,g5⟩:=qax x.enc (off+i*5) w cur hh (by rw[qa7.enc_len];omega);rw[qa7.enc_len]at g4;refine⟨by rw[List.length_set];exact h1,h2,.inr ⟨b,off,cur',rfl,hlo,g1,by omega,?_⟩⟩;intro j u hu;have hlt:=(List.getElem?_eq_some_iff.1 hu).1;rw[qao qa7.enc_len,List.length_set]at hlt;obtain⟨q,r,rfl,hq,hr⟩:∃q r,j=q*5+r/\q<l.length/\r<5:=⟨j/5,j%5,by omega,by omega,by omega⟩;rw[qb0 qa7.enc_len _ q (by rw[List.length_set];exact hq) r hr,List.getElem_set]at hu;have hold:=λu'=>hc (q*5+r) u'
 rw[qb0 qa7.enc_len l q hq r hr]at hold;by_cases hqi:i=q
 · subst hqi
   rw[if_pos rfl]at hu;have:=g5 r u hu;rwa [Nat.add_assoc]at this
 · rw[if_neg hqi]at hu
   by_cases hlq:q<i
   · rw[g3 _ (by omega)];exact hold u hu
   · rw[g4 _ (by omega)];exact hold u hu
def qbz(c:qa7):Value:=.agg #[.int .i64 c.kind,.string c.key,.string c.val,.string c.tx,.slice c.gA c.gn c.gc]
def Deep(w:World)(B:Nat):Nat->qa7->Prop
 |0,_=>False
 |n+1,c=>∃g,qbr w B c g/\g.length<=1000000/\∀x∈g,Deep w B n x
theorem Deep.below{w w':World}{B:Nat}(hb:Below B w w'):∀{n:Nat} {c:qa7},Deep w B n c->Deep w' B n c
 |0,_,h=>h
 |_+1,_,⟨g,h1,h2,h3⟩=>⟨g,h1.below hb,h2,λx hx=>(h3 x hx).below hb⟩
theorem Deep.more{w:World}{B B':Nat}(hB:B<=B'):∀{n:Nat} {c:qa7},Deep w B n c->Deep w B' n c
 |0,_,h=>h
 |_+1,_,⟨g,h1,h2,h3⟩=>⟨g,h1.more hB,h2,λx hx=>(h3 x hx).more hB⟩
def qus(c:qa7)(g:List qa7)(w:World)(e:Ending)(w':World):Prop:=∃(y:qa7) (M:List qa7),e=.returned (qbz y)/\CSim y c/\Sl qa7.enc 5 w' w'.heap.size y.gA y.gn y.gc M/\Sims M g/\Below w.heap.size w w'/\(M=[]\/∃x off,y.gA=some ⟨x,off,none⟩/\w.heap.size<=x)
theorem qy5{W W':World}{n q:Nat}{u v0 v1 v2 v3 v4:Value}(hb:Below W.heap.size W W')(hn:n<W.heap.size)(hq:q<W.heap.size)
 (h:W.cell? ⟨n,4,none⟩=some u/\W.cell? ⟨q,0,none⟩=some v0/\W.cell? ⟨q,1,none⟩=some v1/\W.cell? ⟨q,2,none⟩=some v2/\W.cell? ⟨q,3,none⟩=some v3/\W.cell? ⟨q,4,none⟩=some v4):
 W'.cell? ⟨n,4,none⟩=some u/\W'.cell? ⟨q,0,none⟩=some v0/\W'.cell? ⟨q,1,none⟩=some v1/\W'.cell? ⟨q,2,none⟩=some v2/\W'.cell? ⟨q,3,none⟩=some v3/\W'.cell? ⟨q,4,none⟩=some v4:=by
 rw[hb.cell (p:=⟨n,4,none⟩) hn,hb.cell (p:=⟨q,0,none⟩) hq,hb.cell (p:=⟨q,1,none⟩) hq,hb.cell (p:=⟨q,2,none⟩) hq,hb.cell (p:=⟨q,3,none⟩) hq,hb.cell (p:=⟨q,4,none⟩) hq];exact h
theorem qba{B:Nat}{w w':World}{b:Nat}(h:Below B w w')(hb:B<=b)(o:Nat)(u0 u1 u2 u3 u4:Value):Below B w (((((w'.setCell ⟨b,o,none⟩ u0).setCell ⟨b,o+1,none⟩ u1).setCell ⟨b,o+2,none⟩ u2).setCell ⟨b,o+3,none⟩ u3).setCell ⟨b,o+4,none⟩ u4):=
 ((((h.setCell hb _).setCell hb _).setCell hb _).setCell hb _).setCell hb _
theorem qco{w:World}{b p:Nat}(h:p≠b)(o:Nat)(u0 u1 u2 u3 u4:Value):(((((w.setCell ⟨b,o,none⟩ u0).setCell ⟨b,o+1,none⟩ u1).setCell ⟨b,o+2,none⟩ u2).setCell ⟨b,o+3,none⟩ u3).setCell ⟨b,o+4,none⟩ u4).heap[p]? =w.heap[p]? :=by
 rw[Below.heap_setCell _ _ _ _ h,Below.heap_setCell _ _ _ _ h,Below.heap_setCell _ _ _ _ h,Below.heap_setCell _ _ _ _ h,Below.heap_setCell _ _ _ _ h]
theorem qcp{w:World}{b p o':Nat}(h:p≠b)(o:Nat)(u0 u1 u2 u3 u4:Value):(((((w.setCell ⟨b,o,none⟩ u0).setCell ⟨b,o+1,none⟩ u1).setCell ⟨b,o+2,none⟩ u2).setCell ⟨b,o+3,none⟩ u3).setCell ⟨b,o+4,none⟩ u4).cell? ⟨p,o',none⟩=w.cell? ⟨p,o',none⟩:=by
 unfold World.cell?;rw[qco h]
theorem qz4{W:World}{n q b:Nat}{u v0 v1 v2 v3 v4:Value}(hn:n≠b)(hq:q≠b)(o:Nat)(u0 u1 u2 u3 u4:Value)
 (h:W.cell? ⟨n,4,none⟩=some u/\W.cell? ⟨q,0,none⟩=some v0/\W.cell? ⟨q,1,none⟩=some v1/\W.cell? ⟨q,2,none⟩=some v2/\W.cell? ⟨q,3,none⟩=some v3/\W.cell? ⟨q,4,none⟩=some v4):
 (((((W.setCell ⟨b,o,none⟩ u0).setCell ⟨b,o+1,none⟩ u1).setCell ⟨b,o+2,none⟩ u2).setCell ⟨b,o+3,none⟩ u3).setCell ⟨b,o+4,none⟩ u4).cell? ⟨n,4,none⟩=some u/\(((((W.setCell ⟨b,o,none⟩ u0).setCell ⟨b,o+1,none⟩ u1).setCell ⟨b,o+2,none⟩ u2).setCell ⟨b,o+3,none⟩ u3).setCell ⟨b,o+4,none⟩ u4).cell? ⟨q,0,none⟩=some v0/\(((((W.setCell ⟨b,o,none⟩ u0).setCell ⟨b,o+1,none⟩ u1).setCell ⟨b,o+2,none⟩ u2).setCell ⟨b,o+3,none⟩ u3).setCell ⟨b,o+4,none⟩ u4).cell? ⟨q,1,none⟩=some v1/\(((((W.setCell ⟨b,o,none⟩ u0).setCell ⟨b,o+1,none⟩ u1).setCell ⟨b,o+2,none⟩ u2).setCell ⟨b,o+3,none⟩ u3).setCell ⟨b,o+4,none⟩ u4).cell? ⟨q,2,none⟩=some v2/\(((((W.setCell ⟨b,o,none⟩ u0).setCell ⟨b,o+1,none⟩ u1).setCell ⟨b,o+2,none⟩ u2).setCell ⟨b,o+3,none⟩ u3).setCell ⟨b,o+4,none⟩ u4).cell? ⟨q,3,none⟩=some v3/\(((((W.setCell ⟨b,o,none⟩ u0).setCell ⟨b,o+1,none⟩ u1).setCell ⟨b,o+2,none⟩ u2).setCell ⟨b,o+3,none⟩ u3).setCell ⟨b,o+4,none⟩ u4).cell? ⟨q,4,none⟩=some v4:=by
 rw[qcp hn,qcp hq,qcp hq,qcp hq,qcp hq,qcp hq];exact h
structure qBf(w:World)(c:qa7)(g:List qa7)(A:Option Addr)(cc k:Nat)(wr:World):Prop where
 own:∃M:List qa7,M.length=g.length/\Own qa7.enc 40 5 wr (w.heap.size+2) A cc M/\(∀i,k<=i->M[i]? =g[i]?)/\∀i (h1:i<M.length) (h2:i<g.length),i<k->CSim M[i] g[i]/\M[i].gc<=9223372036854775807
 row0:wr.heap[w.heap.size]? =some (.cells #[.int .i64 c.kind,.string c.key,.string c.val,.string c.tx,.slice A g.length cc] 40 (0,0))
 row1:wr.heap[w.heap.size+1]? =some (.cells #[.int .i64 0,.string ByteArray.empty,.string ByteArray.empty,.string ByteArray.empty,.slice none 0 0] 40 (0,0))
 below:Below w.heap.size w wr
 size:w.heap.size+2<=wr.heap.size
theorem qer(d:Nat):∀(c:qa7) (g:List qa7) (w:World),qbr w w.heap.size c g->g.length<=1000000->(∀x∈g,Deep w w.heap.size d x)->Calls prog 46 #[qbz c] w (qus c g w):=by
 induction d using Nat.strongRecOn with
 |_ d ih =>
  intro c g w hc hlen hdeep;have IH:=hid ih;clear ih;obtain⟨kind,key,val,to',gA,gn,gc⟩:=c;obtain rfl:gn=g.length:=hc.len;have HC:=hid hc;have HD:=hid hdeep;have HL:=hid hlen;clear hc hdeep hlen;unfold qbz;go_enter func46,ntmps46;go_wp2_with fail;refine(qhx g gA gc _ ?_ HC.out.cap HC.out.max HL.out).mono ?_
  · exact(HC.out.arr.below (by repeat(first|exact Below.refl _ _|assumption|refine Below.drew ?_|refine qa1 ?_ _|refine Below.alloc ?_ (by first|omega|simp <;> omega) _|refine Below.setCell ?_ (by first|omega|simp <;> omega) _))).more (by first|omega|simp <;> omega)
  rintro e w1⟨A,cc,rfl,hown,hb1⟩;have hz1:=hb1.size;simp only[World.size_alloc]at hz1;have hR0:w1.heap[w.heap.size]? =some (.cells #[.int .i64 kind,.string key,.string val,.string to',.slice gA g.length gc] 40 (0,0)):=(hb1.block _ (by simp;omega)).trans (by rw[qa2,if_neg (by simp),qa2,if_pos rfl]);have hR1:w1.heap[w.heap.size+1]? =some (.cells #[.int .i64 0,.string ByteArray.empty,.string ByteArray.empty,.string ByteArray.empty,.slice none 0 0] 40 (0,0)):=(hb1.block _ (by simp)).trans (by rw[qa2,if_pos (by simp)];rfl);have hB1:Below w.heap.size w w1:=Below.trans (by repeat(first|exact Below.refl _ _|assumption|refine Below.drew ?_|refine qa1 ?_ _|refine Below.alloc ?_ (by first|omega|simp <;> omega) _|refine Below.setCell ?_ (by first|omega|simp <;> omega) _)) (hb1.mono (by first|omega|simp <;> omega));have f4:=frozen_of_row w1 _ 4 _ _ hR0;have hl0:w.heap.size<w1.heap.size:=by omega
  have hS0:(w1.setCell ⟨w.heap.size,4,none⟩ (.slice A g.length cc)).heap[w.heap.size]? =some (.cells #[.int .i64 kind,.string key,.string val,.string to',.slice A g.length cc] 40 (0,0)):=by
   have:=heap_setCell_same _ (w.heap.size) 4 _ _ (.slice A g.length cc) hR0;exact this
  have hS1:(w1.setCell ⟨w.heap.size,4,none⟩ (.slice A g.length cc)).heap[w.heap.size+1]? =_:=(Below.heap_setCell _ _ _ _ (by simp)).trans hR1;have hI:qBf w ⟨kind,key,val,to',gA,g.length,gc⟩ g A cc 0 (w1.setCell ⟨w.heap.size,4,none⟩ (.slice A g.length cc)):=
   ⟨⟨g,rfl,Own.setCell (hown.lower (by simp)) (by show w.heap.size<w.heap.size+2;omega) _,λ_ _=>rfl,λ_ _ _ h=>absurd h (by omega)⟩,hS0,hS1,hB1.setCell (Nat.le_refl _) _,by simp;omega⟩
  have HI:=hid hI;have hm:=hown.max;have hcl:=hown.len;clear hI hS0 hS1 hown hb1 hB1;have c4:=cell_of_row w1 _ 4 _ _ _ hR0;go_wp2_with fail;go_loopw [12] (λv12 wr=>∃k:Nat,k<=g.length/\v12=.int .i64 k/\qBf w ⟨kind,key,val,to',gA,g.length,gc⟩ g A cc k wr) (λv12 _=>g.length-(intOf v12).toNat)
  case atStart=>exact⟨0,Nat.zero_le _,rfl,HI.out⟩
  case round =>
   obtain⟨k,hkl,rfl,⟨M,hML,hO,hMg,hMs⟩,hr0,hr1,hbr,hzr⟩:=hrel;by_cases hlt:k<g.length
   · have hMk:M[k]'(by omega)=g[k]:=by
      have:=hMg k (Nat.le_refl _);rw[List.getElem?_eq_getElem (by omega),List.getElem?_eq_getElem hlt]at this;exact Option.some.inj this
     obtain⟨b,off,rfl,hlb,hbw⟩:∃b off,A=some ⟨b,off,none⟩/\w.heap.size+2<=b/\b<wr.heap.size:=by
      rcases hO.lt with h0|h0
      · omega
      · exact h0
     have f0:=hO.frozen rfl (by omega) (off+k*5);have f1:=hO.frozen rfl (by omega) (off+k*5+1);have f2:=hO.frozen rfl (by omega) (off+k*5+2);have f3:=hO.frozen rfl (by omega) (off+k*5+3);have f4:=hO.frozen rfl (by omega) (off+k*5+4);obtain⟨b',off',hA,hB,d0,d1,d2,d3,d4⟩:=(hO.arr qa7.enc_len).call0 (i:=k) (by omega);cases hA
     rw[hMk]at d0 d1 d2 d3 d4;have HMS:=hid hMs;clear hMs;obtain⟨d',g',hd',hcg,hgl,hgd⟩:∃d' g',d'<d/\qbr w w.heap.size g[k] g'/\g'.length<=1000000/\∀x∈g',Deep w w.heap.size d' x:=by
      have h0:=HD.out g[k] (List.getElem_mem hlt);cases d with
      |zero=>exact h0.elim
      |succ d'=>obtain⟨g',h1,h2,h3⟩:=h0;exact⟨d',g',by omega,h1,h2,h3⟩
     have HGL:=hid hgl;have HD':=hid hd';clear hgl hd';have n4:=cell_of_row wr _ 4 _ _ _ hr0;have HO:=hid hO;have HR:=hid hr0;have HS:=hid hr1;have HG:=hid hMg;have HDK:=hid (hcg.below hbr);have HDD:Hid (∀x∈g',Deep wr w.heap.size d' x):=hid λx hx=>(hgd x hx).below hbr
     have hsw:w.heap.size<wr.heap.size:=by omega
     clear hO hr0 hr1 hMg hMk hcg hgd;have i1:(0:Int)<=(k:Int):=by omega
     have i2:(k:Int)<(g.length:Int):=by omega
     go_upto_region 5 with fail;obtain⟨wl,hwl⟩:∃wl,wl=wr.alloc (.cells #[.int .i64 g[k].kind,.string g[k].key,.string g[k].val,.string g[k].tx,.slice g[k].gA g[k].gn g[k].gc] 40):=⟨_,rfl⟩;rw[<-hwl];have zl:wl.heap.size=wr.heap.size+1:=by rw[hwl];simp
     have bl:Below wr.heap.size wr wl:=by rw[hwl];exact(Below.refl _ _).alloc (Nat.le_refl _) _
     have HK:=hid (show wl.cell? ⟨w.heap.size,4,none⟩=some (.slice (some ⟨b,off,none⟩) g.length cc)/\wl.cell? ⟨wr.heap.size,0,none⟩=some (.int .i64 g[k].kind)/\wl.cell? ⟨wr.heap.size,1,none⟩=some (.string g[k].key)/\wl.cell? ⟨wr.heap.size,2,none⟩=some (.string g[k].val)/\wl.cell? ⟨wr.heap.size,3,none⟩=some (.string g[k].tx)/\wl.cell? ⟨wr.heap.size,4,none⟩=some (.slice g[k].gA g[k].gn g[k].gc)from⟨(bl.cell (p:=⟨w.heap.size,4,none⟩) hsw).trans n4,by rw[hwl];simp[go_sem],by rw[hwl];simp[go_sem],by rw[hwl];simp[go_sem],by rw[hwl];simp[go_sem],by rw[hwl];simp[go_sem]⟩);have HOl:=hid (HO.out.below bl);have HRl:=hid ((bl.block _ hsw).trans HR.out);have HSl:=hid ((bl.block (w.heap.size+1) (by omega)).trans HS.out);have HDl:=hid ((HDK.out.below (bl.mono hbr.size)).more (show w.heap.size<=wl.heap.size by omega));have HDDl:Hid (∀x∈g',Deep wl wl.heap.size d' x):=hid λx hx=>((HDD.out x hx).below (bl.mono hbr.size)).more (show w.heap.size<=wl.heap.size by omega)
     have HBl:=hid (hbr.trans (bl.mono hbr.size));have f0l:=(bl.frozen (p:=⟨b,off+k*5,none⟩) hbw).trans f0;have f1l:=(bl.frozen (p:=⟨b,off+k*5+1,none⟩) hbw).trans f1;have f2l:=(bl.frozen (p:=⟨b,off+k*5+2,none⟩) hbw).trans f2;have f3l:=(bl.frozen (p:=⟨b,off+k*5+3,none⟩) hbw).trans f3;have f4l:=(bl.frozen (p:=⟨b,off+k*5+4,none⟩) hbw).trans f4;have d0l:=(bl.cell (p:=⟨b,off+k*5,none⟩) hbw).trans d0;have d1l:=(bl.cell (p:=⟨b,off+k*5+1,none⟩) hbw).trans d1;have d2l:=(bl.cell (p:=⟨b,off+k*5+2,none⟩) hbw).trans d2;have d3l:=(bl.cell (p:=⟨b,off+k*5+3,none⟩) hbw).trans d3;have d4l:=(bl.cell (p:=⟨b,off+k*5+4,none⟩) hbw).trans d4;clear d0 d1 d2 d3 d4;clear HO HR HS HDK HDD hbr bl f0 f1 f2 f3 f4 n4 hwl HI c4 hR0 hR1;have IHk:∀W:World,Below wl.heap.size wl W->Calls prog 46 #[.agg #[.int .i64 g[k].kind,.string g[k].key,.string g[k].val,.string g[k].tx,.slice g[k].gA g[k].gn g[k].gc]] W (qus g[k] g' W):=λW hW=>IH.out d' HD'.out g[k] g' W ((HDl.out.below hW).more hW.size) HGL.out λx hx=>((HDDl.out x hx).below hW).more hW.size
     have hq:wr.heap.size<wl.heap.size:=by omega
     have hn:w.heap.size<wl.heap.size:=by omega
     have hbl:b<wl.heap.size:=by omega
     have hnb:w.heap.size≠b:=by omega
     have hqb:wr.heap.size≠b:=by omega
     go_region_held3 (λW=>W.cell? ⟨w.heap.size,4,none⟩=some (.slice (some ⟨b,off,none⟩) g.length cc)/\W.cell? ⟨wr.heap.size,0,none⟩=some (.int .i64 g[k].kind)/\W.cell? ⟨wr.heap.size,1,none⟩=some (.string g[k].key)/\W.cell? ⟨wr.heap.size,2,none⟩=some (.string g[k].val)/\W.cell? ⟨wr.heap.size,3,none⟩=some (.string g[k].tx)/\W.cell? ⟨wr.heap.size,4,none⟩=some (.slice g[k].gA g[k].gn g[k].gc)) (first|(with_reducible refine qy5 (W:=wl) ?_ hn hq HK.out;(repeat(first|with_reducible exact Below.refl _ _|with_reducible assumption|with_reducible refine Below.drew ?_|with_reducible refine qa1 ?_ _));done)|with_reducible exact qz4 hnb hqb _ _ _ _ _ _ (qy5 (W:=wl) stC hn hq HK.out)|go_keep) (first|(go_at_call 46;refine(IHk _ ?_).mono ?_;exact(by with_reducible repeat(first|exact Below.refl _ _|assumption|refine Below.drew ?_|refine qa1 ?_ _|refine Below.alloc ?_ (by first|omega|simp <;> omega) _|refine Below.setCell ?_ (by first|omega|simp <;> omega) _));rintro e wC⟨y,My,rfl,hsy,hslY, -,hbC, -⟩;have HSY:=hid hsy;have HYC:=hid hslY.2.2.2;clear hsy hslY;have sC:=hbC.size;(try simp only[World.size_drew]at sC);have stC:Below wl.heap.size wl wC:=(by refine Below.trans ?_ (hbC.mono ?_);exact(by with_reducible repeat(first|exact Below.refl _ _|assumption|refine Below.drew ?_|refine qa1 ?_ _|refine Below.alloc ?_ (by first|omega|simp <;> omega) _|refine Below.setCell ?_ (by first|omega|simp <;> omega) _));(first|exact Nat.le_refl _|(simp;done)|(simp;omega)));unfold qbz;have hblC:b<wC.heap.size:=(by omega);have f0C:=(stC.frozen (p:=⟨b,off+k*5,none⟩) hbl).trans f0l;have f1C:=(stC.frozen (p:=⟨b,off+k*5+1,none⟩) hbl).trans f1l;have f2C:=(stC.frozen (p:=⟨b,off+k*5+2,none⟩) hbl).trans f2l;have f3C:=(stC.frozen (p:=⟨b,off+k*5+3,none⟩) hbl).trans f3l;have f4C:=(stC.frozen (p:=⟨b,off+k*5+4,none⟩) hbl).trans f4l;have d0C:=(stC.cell (p:=⟨b,off+k*5,none⟩) hbl).trans d0l;have d1C:=(stC.cell (p:=⟨b,off+k*5+1,none⟩) hbl).trans d1l;have d2C:=(stC.cell (p:=⟨b,off+k*5+2,none⟩) hbl).trans d2l;have d3C:=(stC.cell (p:=⟨b,off+k*5+3,none⟩) hbl).trans d3l;have d4C:=(stC.cell (p:=⟨b,off+k*5+4,none⟩) hbl).trans d4l));all_goals
      have hR:=qco hnb (off+k*5) (.int .i64 y.kind) (.string y.key) (.string y.val) (.string y.tx) (.slice y.gA y.gn y.gc) |>.trans ((stC.block _ hn).trans HRl.out)
      have hS:=qco (show w.heap.size+1≠b by omega) (off+k*5) (.int .i64 y.kind) (.string y.key) (.string y.val) (.string y.tx) (.slice y.gA y.gn y.gc) |>.trans ((stC.block (w.heap.size+1) (by omega)).trans HSl.out)
      have hO:=((HOl.out.below stC).setCall (i:=k) (by omega) y);have hB:=qba (HBl.out.trans (stC.mono (by omega))) (show w.heap.size<=b by omega) (off+k*5) (.int .i64 y.kind) (.string y.key) (.string y.val) (.string y.tx) (.slice y.gA y.gn y.gc);have HR':=hid hR;have HS':=hid hS;have HO':=hid hO;have HB':=hid hB;clear hR hS hO hB d0C d1C d2C d3C d4C d0l d1l d2l d3l d4l;go_wp2_with fail;exact⟨⟨k+1,by omega,by go_num,⟨M.set k y,by rw[List.length_set];exact hML,HO'.out,(λi hi=>by rw[List.getElem?_set_ne (by omega)];exact HG.out i (by omega)),λi h1 h2 hi=>by
       rw[List.length_set]at h1
       by_cases hik:k=i
       · subst hik
         rw[List.getElem_set_self]
         exact⟨HSY.out,HYC.out⟩
       · rw[List.getElem_set_ne hik]
         exact HMS.out i h1 h2 (by omega)⟩,HR'.out,HS'.out,HB'.out,by simp only[World.size_setCell];omega⟩,by simp[intOf];omega⟩
   · obtain rfl:k=g.length:=by omega
     have x0:=cell_of_row wr _ 0 _ _ _ hr0;have x1:=cell_of_row wr _ 1 _ _ _ hr0;have x2:=cell_of_row wr _ 2 _ _ _ hr0;have x3:=cell_of_row wr _ 3 _ _ _ hr0;have x4:=cell_of_row wr _ 4 _ _ _ hr0;have y0:=cell_of_row wr _ 0 _ _ _ hr1;have y1:=cell_of_row wr _ 1 _ _ _ hr1;have y2:=cell_of_row wr _ 2 _ _ _ hr1;have y3:=cell_of_row wr _ 3 _ _ _ hr1;have y4:=cell_of_row wr _ 4 _ _ _ hr1;have g0:=frozen_of_row wr _ 0 _ _ hr1;have g1:=frozen_of_row wr _ 1 _ _ hr1;have g2:=frozen_of_row wr _ 2 _ _ hr1;have g3:=frozen_of_row wr _ 3 _ _ hr1;have g4:=frozen_of_row wr _ 4 _ _ hr1;have hl1:w.heap.size+1<wr.heap.size:=by omega
     have hl2:w.heap.size<wr.heap.size:=by omega
     have HO:=hid hO;have HMS:=hid hMs;clear hr0 hr1 hO hMg hMs;go_wp2_with fail;refine bodyPost_ret (v:=qbz ⟨kind,key,val,to',A,g.length,cc⟩) (by simp[results,results46,go_sem,qbz,y0,y1,y2,y3,y4]) rfl ⟨_,M,rfl,⟨rfl,rfl,rfl,rfl,rfl⟩,?_,⟨hML,λi h1 h2=>HMS.out i h1 h2 h2⟩,?_,?_⟩
     · have hlo1:w.heap.size+1<w.heap.size+2:=by omega
       exact⟨(((((HO.out.setCell (p:=⟨w.heap.size+1,0,none⟩) hlo1 _).setCell (p:=⟨w.heap.size+1,1,none⟩) hlo1 _).setCell (p:=⟨w.heap.size+1,2,none⟩) hlo1 _).setCell (p:=⟨w.heap.size+1,3,none⟩) hlo1 _).setCell (p:=⟨w.heap.size+1,4,none⟩) hlo1 _).arr qa7.enc_len,hML.symm,by have:=HO.out.len;omega,HO.out.max⟩
     · exact(by with_reducible repeat(first|exact Below.refl _ _|assumption|refine Below.drew ?_|refine qa1 ?_ _|refine Below.alloc ?_ (by first|omega|simp <;> omega) _|refine Below.setCell ?_ (by first|omega|simp <;> omega) _))
     · rcases HO.out.lt with h0|⟨x,off,hA,hx,_⟩
       · left
         have:=HO.out.len;exact List.eq_nil_of_length_eq_zero (by omega)
       · exact .inr ⟨x,off,hA,by omega⟩
end
section
open Go.RowKit
def lvD(L:List qa3)(key:ByteArray)(k:Nat):Nat->List qa3:=λj=>if j<k then qd9 (atLv L j) key else atLv L j
theorem qsj(L:List qa3)(key:ByteArray)(k:Nat):lvD L key k k=atLv L k:=by simp[lvD]
theorem qou(L:List qa3)(key:ByteArray)(k:Nat)(j:Nat):upd (lvD L key k) k (qd9 (atLv L k) key) j=lvD L key (k+1) j:=by
 unfold upd lvD;by_cases h:j=k
 · subst h;simp
 · rw[if_neg h]
   by_cases h2:j<k
   · rw[if_pos h2,if_pos (by omega)]
   · rw[if_neg h2,if_neg (by omega)]
theorem qk5{L:List qa3}{key:ByteArray}{k:Nat}(h:hasL (atLv L k) key=false)(j:Nat):lvD L key k j=lvD L key (k+1) j:=by
 rw[<-qou,upd];split
 · rename_i e
   rw[e,qsj,qj6 h]
 · rfl
theorem qz2(L:List qa3)(key:ByteArray)(j:Nat):lvD L key (qgn key) j=atLv (qd9 L key) j:=by
 unfold lvD;split
 · rw[qsh]
 · rw[qlk (by assumption)]
theorem qs7{F:Nat->Prop}{L:List qa3}{ob:Nat}(key:ByteArray)(w:World)(h:Ord F w ob (atLv L))(hF:∀j,w.heap.size<=j->F j)(hr:Rise L)(hlen:L.length<=50000)(hkey:key.size<=1000000):
 Calls prog 345 #[.pointer (some ⟨ob,0,none⟩),.string key] w λe w'=>e=.returned (.bool (hasL L key))/\Ord F w' ob (atLv (qd9 L key))/\Only F w w':=by
 have hob:=h.lt;have HO:=hid h;have HR:=hid hr;have HFr:=hid hF;obtain⟨n,hn⟩:∃n,n=qgn key:=⟨_,rfl⟩;have hn4:=qhk key;rw[<-hn]at hn4;have hlev:∀w,Calls prog 326 #[.string key] w λe w'=>e=.returned (.int .i64 (n:Nat))/\w=w':=λw=>by rw[hn];exact qiw key hkey w
 have HN:=hid hn;have hn1:=hn4.1;have hn2:=hn4.2;clear h hr hF hn hn4 hkey;go_enter func345,ntmps345;go_wp2_with(go_at_call 326;refine(hlev _).mono ?_;rintro e w'⟨rfl,rfl⟩);have HO0:Hid (Ord F w ob (lvD L key 0)):=hid (HO.out.congr λj _=>by simp[lvD]);go_loopw [5,13] (λv5 v13 wr=>∃k:Nat,k<=n/\v13=.int .i64 k/\v5=.bool (decide (0<k)&&hasL L key)/\Ord F wr ob (lvD L key k)/\Only F w wr) (λ_ v13 _=>n-(intOf v13).toNat)
 case atStart=>exact⟨0,Nat.zero_le _,rfl,by simp,HO0.out,Only.refl _ _⟩
 case round =>
  obtain⟨k,hkn,rfl,rfl,hord,honly⟩:=hrel;by_cases hlt:k<n
  · obtain⟨hFob,A,c,hin⟩:=hord
    have c0:=hin.cell k (by omega);have HIN:=hid hin;have HON:=hid honly;have hobr:=hin.lt;have hsz:=honly.size;rw[qsj]at c0;have hown:=hin.own k (by omega);rw[qsj]at hown;have HOW:=hid hown;have hln:=hown.len;have hmx:=hown.max;have hk4:(k:Int)<4:=by omega
    have hll:(atLv L k).length<=100000:=by have:=qy2 L k;omega
    clear hin honly hown;go_wp2_with fail;refine(qli (atLv L k) (qhd HR.out k) _ _ key _ (((HOW.out.arr qa3.enc_len).below (by repeat(first|exact Below.refl _ _|assumption|refine Below.drew ?_|refine qa1 ?_ _|refine Below.alloc ?_ (by first|omega|simp <;> omega) _|refine Below.setCell ?_ (by first|omega|simp <;> omega) _))).more (by first|omega|simp <;> omega)) hln hmx hll).mono ?_;rintro e w1⟨rfl,hb1⟩;all_goals
     have bw1:Below wr.heap.size wr w1:=Below.trans (by repeat(first|exact Below.refl _ _|assumption|refine Below.drew ?_|refine qa1 ?_ _|refine Below.alloc ?_ (by first|omega|simp <;> omega) _|refine Below.setCell ?_ (by first|omega|simp <;> omega) _)) (hb1.mono (by first|omega|simp <;> omega));have hz1:=bw1.size;have c1:=(bw1.cell (p:=⟨ob,k,none⟩) hobr).trans c0;have HIN1:=hid (HIN.out.below bw1);have HOW1:=hid (HOW.out.below bw1);have hob1:ob<w1.heap.size:=by omega
     have hkey:hasL (atLv L k) key=hasL L key:=qy7 (by rw[<-HN.out];exact hlt);have HKEY:=hid hkey;clear hkey c0 hb1;obtain⟨p,hp⟩:∃p,p=posL (atLv L k) key:=⟨_,rfl⟩;rw[<-hp];have HP:=hid hp;clear hp;cases hh:hasL (atLv L k) key with
     |true =>
      have HH:=hid hh;have HS:=qth (qhd HR.out k) hh;rw[<-HP.out]at HS;have hpl:=HS.1;have HST:=hid HS.2;have HL4:=hid (HIN1.out.lies k (by omega));have q1':=HIN1.out.frz k;clear HS hh;obtain⟨b,off,hA,_,hbw⟩:∃b off,A k=some ⟨b,off,none⟩/\0<=b/\b<w1.heap.size:=by
       rcases HOW1.out.lt with h0|h0
       · omega
       · exact h0
      obtain⟨m,hm⟩:∃m,(atLv L k).length=m+1:=⟨(atLv L k).length-1,by omega⟩;have HM:=hid hm;have hpm:p<=m:=by omega
      have hpl2:(qd9 (atLv L k) key).length=m:=by rw[HST.out,List.length_append,List.length_take,List.length_drop];omega
      have HPL2:=hid hpl2;rw[hA,hm]at c1;have hOA:=HOW1.out;have hrow:qa8 (A k) (c k)=some b:=by rw[hA,qa8,if_neg (by omega)];rfl
      rw[hA]at hOA;have HOA:=hid hOA;have HROW:=hid hrow;have hw1:IntKind.i64.wrap ((p:Int)+1)=(p:Int)+1:=by rw[IntKind.wrap_i64];omega
      clear hOA hm hpl2 hrow;go_wp2_with fail;go_region_with (go_at_call 365;refine(qwq (atLv L k) m b off (c k) 0 p _ (by exact HOA.out) HM.out hpm).mono ?_;rintro e w3⟨rfl,hown,hgr⟩;have hb3:w3.heap[ob]? =w1.heap[ob]? :=(hgr.block ob (by first|exact hob1|(simp;omega)) λhr=>((HOW1.out.row HL4.out ob (by rw[hA];exact hr.symm)).2 rfl));have q0:=(qaj (p:=⟨ob,k,none⟩) hb3).trans c1;have q1:=(qbg (p:=⟨ob,k,none⟩) hb3).trans q1');all_goals
       go_wp2_with fail;go_roundw
       case rel =>
        obtain⟨r1,r2⟩:=HIN1.out.put hFob (by omega) (λj hj=>HFr.out j (by have:=HON.out.size;omega)) (W:=w1.drew) (by repeat(first|exact Below.refl _ _|assumption|refine Below.drew ?_|refine qa1 ?_ _|refine Below.alloc ?_ (by first|omega|simp <;> omega) _|refine Below.setCell ?_ (by first|omega|simp <;> omega) _)) (by rw[hA];exact hgr) hown (n:=m) (by rw[<-HST.out];exact HPL2.out.symm) (.inl ⟨hA.symm,rfl⟩);refine⟨k+1,by omega,by go_num,?_,?_,(HON.out.trans (Only.of_below bw1)).trans r2⟩
        · rw[<-HKEY.out,HH.out]
          simp
        · rw[<-HST.out]at r1
          exact r1.congr λj _=>qou L key k j
       case measure=>simp[intOf];omega
     |false =>
      have HH:=hid hh;clear hh;go_wp2_with fail;go_roundw
      case rel =>
       refine⟨k+1,by omega,by go_num,?_,⟨hFob,A,c,?_⟩,HON.out.trans (Only.of_below bw1)⟩
       · rw[<-HKEY.out,HH.out]
         simp
       · obtain⟨_,A2,c2,h2⟩:Ord F w1 ob (lvD L key (k+1)):=by exact Ord.congr ⟨hFob,A,c,HIN1.out⟩ λj _=>qk5 HH.out j
         exact⟨λi hi=>by rw[<-qk5 HH.out i];exact HIN1.out.cell i hi,HIN1.out.frz,λi hi=>by rw[<-qk5 HH.out i];exact HIN1.out.own i hi,HIN1.out.lies,HIN1.out.apart⟩
      case measure=>simp[intOf];omega
  · obtain rfl:k=n:=by omega
    have HORD:=hid hord;have HON:=hid honly;clear hord honly;go_wp2;go_ret;refine⟨?_,?_,HON.out⟩
    · have:decide (0<k)=true:=by simp;omega
      simp[this]
    · exact HORD.out.congr λj _=>by rw[HN.out];exact qz2 L key j
end
end Go.Proofs.YtecikkjbnkhhkaaGreat
