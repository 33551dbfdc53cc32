/- A part of the walk. -/
import Derived.Test.YtecikkjbnkhhkaaGreatP25
namespace Go.Proofs.YtecikkjbnkhhkaaGreat
open _root_.Go.Proofs.Tryz
set_option maxHeartbeats 4000000
set_option maxRecDepth 100000
section
open Go.RowKit
def qzy(lo p sc:Nat)(S:List qan)(c:Int)(w:World)(e:Ending)(w':World):Prop:=
 (qa9 c=0/\e=.returned (.tuple #[.int .i64 0,.int .i64 1])/\w'=w) \/
 (¬qa9 c=0/\e=.returned (.tuple #[.int .i64 0,.int .i64 4])/\w'=w/\∀j (hj:j<S.length),¬S[j].cls= -1) \/
 (∃(i k:Nat) (hi:i<S.length),¬qa9 c=0/\quz S c i k true/\e=.returned (.tuple #[.int .i64 ((2+i*8+k*qa9 c:Nat):Int),.int .i64 0]) /\
  qb8 w' lo p sc (S.set i (S[i].put c k))/\Below lo w w'/\∀b,b≠sc->w'.heap[b]? =w.heap[b]?)
theorem qvd(w:World)(lo p sc:Nat)(S:List qan)(h:qb8 w lo p sc S)(c:Int):Calls prog 301 #[.pointer (some ⟨p,0,none⟩),.int .i64 c] w (qzy lo p sc S c w):=by
 have H:=hid h;have hp:=qa0 h.box;have p0:=cell_of_row w p 0 _ _ _ h.box;have hlen:=h.len;by_cases hc:qa9 c=0
 · clear h
   go_enter func301,ntmps301;go_wp2_with fail;refine(qaw c w).mono ?_;rintro e w1⟨rfl,rfl⟩;rw[hc];go_wp2_with fail;go_ret2;exact .inl ⟨hc,rfl,rfl⟩
 · have hce:(((qa9 c:Nat):Int)==0)=false:=by rw[beq_eq_false_iff_ne];omega
   have hs8:qa9 c<=8:=by rcases qet c with h|h|h|h|h <;> omega
   have TF:=hid (qwn w lo p sc S h c hc);clear h;go_enter func301,ntmps301;go_wp2_with fail;refine(qaw c w).mono ?_;rintro e w1⟨rfl,rfl⟩;go_wp2_with fail;refine TF.out.mono ?_;rintro e w2⟨rfl,i,k,ok,rfl,hf⟩;have HF:=hid hf;clear hf hce;cases ok with
   |false =>
    go_wp2_with fail;go_ret2;exact .inr (.inl ⟨hc,rfl,rfl,HF.out.2 rfl⟩)
   |true =>
    obtain⟨hi,hk8, -⟩:=HF.out.1 rfl;have hii:(i:Int)<(S.length:Int):=by omega
    have hscl:=(H.out.slab hi).lt;have TT:=hid (qro w2 lo p sc S H.out i k hi hk8 c);have hsl:qha i=2+(i:Int)*8:=by unfold qha;rw[if_neg (by omega)]
    have HSL:=hid hsl;have hks:k*qa9 c<=64:=by
     calc k*qa9 c<=8*8:=Nat.mul_le_mul (by omega) hs8
      _=64:=rfl
    clear hsl;go_wp2_with fail;refine TT.out.mono ?_;rintro e w3⟨rfl,hP,hb,hoth⟩;have HP:=hid (And.intro hP (And.intro hb hoth));clear hP hb hoth p0;go_wp2_with fail;refine(qjs i w3).mono ?_;rintro e w4⟨rfl,rfl⟩;rw[HSL.out];go_wp2_with fail;refine(qaw c w4).mono ?_;rintro e w5⟨rfl,rfl⟩;have HE:=hid (show((2+i*8+k*qa9 c:Nat):Int)=2+(i:Int)*8+(k:Int)*(qa9 c:Int)by push_cast;rfl);have hbn:(0:Int)<=(k:Int)*(qa9 c:Int)/\(k:Int)*(qa9 c:Int)<=64:=by rw[<-Int.natCast_mul];omega
    have j1:IntKind.i64.wrap ((k:Int)*(qa9 c:Int))=(k:Int)*(qa9 c:Int):=Go.IntWalk.i64_in _ (by omega);have j2:IntKind.i64.wrap (2+(i:Int)*8+(k:Int)*(qa9 c:Int))=2+(i:Int)*8+(k:Int)*(qa9 c:Int):=Go.IntWalk.i64_in _ (by omega);go_wp2_with fail;go_ret2;exact .inr (.inr ⟨i,k,hi,hc,HF.out,by rw[HE.out];rfl,HP.out.1,HP.out.2.1,HP.out.2.2⟩)
end
section
open Go.RowKit
def VTo(lo a:Nat)(P:qag)(b t:Nat)(ty:TypeId)(g:Own8)(w:World)(M':qa4)(f':qa5)(d':FrD)(r:Ending)(w':World):Prop:=r=.returned (.tuple #[])/\WTo lo a P b t ty g w M' f' d' w'
section
variable {g:Own8}{w:World}{lo a b t:Nat}{P:qag}{M:qa4}{ty:TypeId}{f:qa5}{d:FrD}
theorem qcb(h:WSt g w lo a P M b t ty f d)(e:Int):Calls prog 244 #[.pointer (some ⟨b,2,none⟩),.int .i64 e] w (VTo lo a P b t ty g w M {f with code:=e,phase:=6} d):=by
 have H:=hid h;have c24:=h.box.c 24 rfl;have c7:=h.box.c 7 rfl;have f24:=h.box.fr 24;have f7:=h.box.fr 7;have hl:=h.box.lt;clear h;go_enter func244,ntmps244;go_wp2;refine bodyPost_ret (v:=.tuple #[]) (by simp[results,results244]) rfl ⟨rfl,g,(H.out.set 24 (.int .i64 e) {f with code:=e} rfl ⟨rfl,rfl,rfl,rfl⟩).set 7 (.int .i64 6) {f with code:=e,phase:=6} rfl ⟨rfl,rfl,rfl,rfl⟩,(ExtB.set _ _).trans (ExtB.set _ _)⟩
theorem qa6.rdSet(h:qa6 g w a P M){t:Nat}(ht:t<M.H.length)(v:Nat):ATo g w (w.setCell ⟨P.rc,t,none⟩ (.int .u64 (v:Int))) a P {M with H:=M.H.set t v}:=
 h.setRd ((Only.refl _ w).setCell _ _ (.inl h.rd.2.2)) (h.rd.1.set ht v)
theorem qg4(h:WSt g w lo a P M b t ty f d)(ht:t<M.H.length):Calls prog 249 #[.pointer (some ⟨a,0,none⟩),.int .i64 (t:Int),.pointer (some ⟨b,2,none⟩)] w (VTo lo a P b t ty g w {M with H:=M.H.set t 0} {f with phase:=7} d):=by
 obtain⟨g1,A1,E1⟩:=h.ar.rdSet ht 0;have H1:=hid (h.ext A1 E1);have HE:=hid E1;have c7:=H1.out.box.c 7 rfl;have f7:=H1.out.box.fr 7;have hl:=H1.out.box.lt;have TR:=hid (qeb h.ar);have TL:=hid (qsn w 0 P.rp P.rc M.rnow M.H h.ar.rd.1 t ht);clear h A1 E1;generalize (if M.H[t]=0 then(12:Int)else 0)=cd at TL;go_enter func249,ntmps249;go_wp2_with fail;refine TR.out.mono ?_;rintro e w1⟨rfl,rfl⟩;go_wp2_with fail;refine TL.out.mono ?_;rintro e w2⟨rfl,rfl⟩;generalize hw2:World.setCell w1 _ _=w2 at *;go_wp2_with fail;refine bodyPost_ret (v:=.tuple #[]) (by simp[results,results249]) rfl ⟨rfl,g1,H1.out.set 7 (.int .i64 7) {f with phase:=7} rfl ⟨rfl,rfl,rfl,rfl⟩,(ExtB.of_ext HE.out).trans (ExtB.set _ _)⟩
def qi6(S S':List qan):Prop:=S'=S\/∃(i k:Nat) (hi:i<S.length),S'=S.set i (S[i].gave k)/\∃hk:k<S[i].taken.length,S[i].taken[k]=true
theorem qmf(h:qa6 g w a P M)(line:Int):Calls prog 270 #[.pointer (some ⟨P.pp,0,none⟩),.int .i64 line] w λr w'=>∃(code:Int) (S':List qan),r=.returned (.int .i64 code)/\qi6 M.S S'/\ATo g w w' a P {M with S:=S'}:=by
 refine(qwj w 0 P.pp P.sc M.S h.pool.1 line).mono ?_;rintro r w'⟨code,S',rfl,hs,hp,hb,hk⟩;exact⟨code,S',rfl,hs,h.setPool (qcx.of2 hb (λj hj h1 _=>hk j hj h1) h.pool.2.2 h.pool.2.2) hp⟩
def qBp(lo a:Nat)(P:qag)(M:qa4)(b t:Nat)(ty:TypeId)(f:qa5)(d:FrD)(g:Own8)(w:World)(r:Ending)(w':World):Prop:=r=.returned (.tuple #[])/\∃S',qi6 M.S S'/\WTo lo a P b t ty g w {M with S:=S'} {f with line:= -1} d w'
theorem qf9(h:WSt g w lo a P M b t ty f d):Calls prog 241 #[.pointer (some ⟨a,0,none⟩),.pointer (some ⟨b,2,none⟩)] w (qBp lo a P M b t ty f d g w):=by
 have H:=hid h;have c18:=h.box.c 18 rfl;have hl:=h.box.lt;have TP:=hid (qi1 h.drew.ar);clear h;go_enter func241,ntmps241;go_upto_region 0 with fail;go_still_tail 6,(by kernel_rfl);still_call TP.out;repeat still_step
 refine wpStill_nil ?_;change wpList _ _ _ _ _ (World.drew w);have H1:=hid H.out.drew;have HE1:Hid (ExtB lo b g g w w.drew):=hid (ExtB.below (Below.refl _ _).drew);generalize hw1:World.drew w=w1 at *;clear hw1 c18 hl H TP;go_wp2_with fail;refine(qmf H1.out.ar f.line).mono ?_;rintro e w2⟨code,S',rfl,hs,g2,A2,E2⟩;have HS:=hid hs;have h2:=H1.out.ext A2 E2;have H2:=hid h2;have HE2:=hid E2;have c18:=h2.box.c 18 rfl;have f18:=h2.box.fr 18;have hl:=h2.box.lt;clear h2 A2 E2 hs;go_wp2_with fail;refine bodyPost_ret (v:=.tuple #[]) (by simp[results,results241]) rfl ⟨rfl,S',HS.out,g2,H2.out.set 18 (.int .i64 (-1)) {f with line:= -1} rfl ⟨rfl,rfl,rfl,rfl⟩,(HE1.out.trans (.of_ext HE2.out)).trans (ExtB.set _ _)⟩
def qrd(lo a:Nat)(P:qag)(M:qa4)(b t:Nat)(ty:TypeId)(f:qa5)(d:FrD)(gi:Int)(h0:Nat)(g:Own8)(w:World)(r:Ending)(w':World):Prop:=
 (gi≠0/\r=.returned (.bool false)/\WTo lo a P b t ty g w M {f with code:=gi,phase:=7} d w') \/
 (gi=0/\h0≠0/\r=.returned (.bool false)/\WTo lo a P b t ty g w M {f with code:=7,phase:=7} d w') \/
 (gi=0/\h0=0/\r=.returned (.bool true)/\WTo lo a P b t ty g w {M with H:=M.H.set t M.rnow} {f with ep:=M.now} d w')
theorem qg5(h:WSt g w lo a P M b t ty f d)(ht:t<M.H.length):Calls prog 238 #[.pointer (some ⟨a,0,none⟩),.int .i64 (t:Int),.pointer (some ⟨b,2,none⟩)] w (qrd lo a P M b t ty f d (qe9 f.call d.gr) M.H[t] g w):=by
 have H:=hid h;have c2:=h.box.c 2 rfl;have c3:=h.box.c 3 rfl;have c4:=h.box.c 4 rfl;have c5:=h.box.c 5 rfl;have c6:=h.box.c 6 rfl;have hl:=h.box.lt;have TG:=hid (qwi f.call d.gr w h.callIn);generalize hgi:qe9 f.call d.gr=gi at *;clear hgi h;go_enter func238,ntmps238;go_wp2_with fail;refine TG.out.mono ?_;rintro e w1⟨rfl,hb1⟩;have h1:=H.out.below hb1;have H1:=hid h1;have HB:=hid hb1;have c24:=h1.box.c 24 rfl;have c7:=h1.box.c 7 rfl;have f24:=h1.box.fr 24;have f7:=h1.box.fr 7;have hl1:=h1.box.lt;clear c2 c3 c4 c5 c6 h1 hb1 hl;by_cases h0:gi=0
 · subst h0
   by_cases hh:M.H[t]=0
   · have TR:=hid (qeb H1.out.ar)
     have TE:=hid (qtf w1 0 P.rp P.rc M.rnow M.H H1.out.ar.rd.1 t ht hh);obtain⟨g2,A2,E2⟩:=H1.out.ar.rdSet ht M.rnow;have HH:=hid hh;have H2:=hid (H1.out.ext A2 E2);have HE2:=hid E2;clear A2 E2 hh c24 c7 f24 f7;go_wp2_with fail;refine TR.out.mono ?_;rintro e w2⟨rfl,rfl⟩;go_wp2_with fail;refine TE.out.mono ?_;rintro e w3⟨rfl,rfl⟩;generalize hw3:World.setCell w2 _ _=w3 at *;have TC:=hid (qcr H2.out.ar);have TN:=hid (qkh H2.out.ar.clk.1);have c8:=H2.out.box.c 8 rfl;have f8:=H2.out.box.fr 8;have hl3:=H2.out.box.lt;clear hw3;go_wp2_with fail;refine TC.out.mono ?_;rintro e w4⟨rfl,rfl⟩;go_wp2_with fail;refine TN.out.mono ?_;rintro e w5⟨rfl,rfl⟩;go_wp2_with fail;go_ret;exact .inr (.inr ⟨rfl,HH.out,rfl,g2,H2.out.set 8 (.int .u64 (M.now:Int)) {f with ep:=M.now} rfl ⟨rfl,rfl,rfl,rfl⟩,((ExtB.below HB.out).trans (.of_ext HE2.out)).trans (ExtB.set _ _)⟩)
   · have TR:=hid (qeb H1.out.ar)
     have TE:=hid (qwp w1 0 P.rp P.rc M.rnow M.H H1.out.ar.rd.1 t ht hh);have HH:=hid hh;clear hh;go_wp2_with fail;refine TR.out.mono ?_;rintro e w2⟨rfl,rfl⟩;go_wp2_with fail;refine TE.out.mono ?_;rintro e w3⟨rfl,rfl⟩;go_wp2_with fail;go_ret;exact .inr (.inl ⟨rfl,HH.out,rfl,g,(H1.out.set 24 (.int .i64 7) {f with code:=7} rfl ⟨rfl,rfl,rfl,rfl⟩).set 7 (.int .i64 7) {f with code:=7,phase:=7} rfl ⟨rfl,rfl,rfl,rfl⟩,((ExtB.below HB.out).trans (ExtB.set _ _)).trans (ExtB.set _ _)⟩)
 · have hb0:(gi==0)=false:=by rw[beq_eq_false_iff_ne];exact h0
   have hb1:(gi != 0)=true:=by rw[bne_iff_ne];exact h0
   have H0:=hid h0;clear h0;go_wp2_with fail;go_ret;exact .inl ⟨H0.out,rfl,g,(H1.out.set 24 (.int .i64 gi) {f with code:=gi} rfl ⟨rfl,rfl,rfl,rfl⟩).set 7 (.int .i64 7) {f with code:=gi,phase:=7} rfl ⟨rfl,rfl,rfl,rfl⟩,((ExtB.below HB.out).trans (ExtB.set _ _)).trans (ExtB.set _ _)⟩
def qxl(a:Nat)(P:qag)(M:qa4)(c:Int)(g:Own8)(w:World)(r:Ending)(w':World):Prop:=
 (qa9 c=0/\r=.returned (.tuple #[.int .i64 0,.int .i64 c,.int .i64 1])/\w'=w) \/
 (¬qa9 c=0/\r=.returned (.tuple #[.int .i64 0,.int .i64 c,.int .i64 4])/\w'=w/\∀j (hj:j<M.S.length),¬M.S[j].cls= -1) \/
 (∃(i k:Nat) (hi:i<M.S.length),¬qa9 c=0/\quz M.S c i k true/\r=.returned (.tuple #[.int .i64 ((2+i*8+k*qa9 c:Nat):Int),.int .i64 c,.int .i64 0])/\ATo g w w' a P {M with S:=M.S.set i (M.S[i].put c k)})
theorem qtb(h:qa6 g w a P M)(n:Int):Calls prog 245 #[.pointer (some ⟨a,0,none⟩),.int .i64 n] w (qxl a P M (qbh n) g w):=by
 have H:=hid h;have TP:=hid (qi1 h);have TT:=hid (qvd w 0 P.pp P.sc M.S h.pool.1 (qbh n));clear h;generalize hc:qbh n=c at *;go_enter func245,ntmps245;go_wp2_with fail;refine(qf5 n w).mono ?_;rintro e w1⟨rfl,rfl⟩;rw[hc];clear hc;go_wp2_with fail;refine TP.out.mono ?_;rintro e w2⟨rfl,rfl⟩;go_wp2_with fail;refine TT.out.mono ?_;rintro e w3 (⟨h1,rfl,rfl⟩|⟨h1,rfl,rfl,h2⟩|⟨i,k,hi,h0,h1,rfl,h2,h3,h4⟩)
 · have H1:=hid h1
   clear h1;go_wp2_with fail;go_ret3;exact .inl ⟨H1.out,rfl,rfl⟩
 · have H1:=hid h1
   have H2:=hid h2;clear h1 h2;go_wp2_with fail;go_ret3;exact .inr (.inl ⟨H1.out,rfl,rfl,H2.out⟩)
 · have H0:=hid h0
   have H1:=hid h1;have H2:=hid (H.out.setPool (qcx.of2 h3 (λj _ hj _=>h4 j hj) H.out.pool.2.2 H.out.pool.2.2) h2);clear h0 h1 h2 h3 h4;go_wp2_with fail;go_ret3;exact .inr (.inr ⟨i,k,hi,H0.out,H1.out,rfl,H2.out⟩)
end
def qcz(c:qa7):Int:=if c.kind=2 then(c.key.size:Int)+(c.val.size:Int)else if c.kind=4 then(c.val.size:Int)else 0
def qm1(c:qa7):ByteArray:=if c.kind=2 then c.key++c.val else if c.kind=4 then c.val else ByteArray.empty
theorem qhs(c:qa7)(w:World)(hk:c.key.size<=1000000)(hv:c.val.size<=1000000):Calls prog 246 #[.agg #[.int .i64 c.kind,.string c.key,.string c.val,.string c.tx,.slice c.gA c.gn c.gc]] w λe w'=>e=.returned (.int .i64 (qcz c))/\Below w.heap.size w w':=by
 obtain⟨kind,key,val,to',gA,gn,gc⟩:=c;simp only at hk hv ⊢;have i1:IntKind.i64.wrap ((key.size:Int)+(val.size:Int))=(key.size:Int)+(val.size:Int):=Go.IntWalk.i64_in _ (by omega);go_enter func246,ntmps246;go_wp2;all_goals(go_ret;exact⟨qs1 (by simp_all [qcz]),(by repeat(first|exact Below.refl _ _|assumption|refine Below.drew ?_|refine qa1 ?_ _|refine Below.alloc ?_ (by first|omega|simp <;> omega) _|refine Below.setCell ?_ (by first|omega|simp <;> omega) _))⟩)
theorem qqk(c:qa7)(w:World)(hk:c.key.size<=1000000)(hv:c.val.size<=1000000):Calls prog 302 #[.agg #[.int .i64 c.kind,.string c.key,.string c.val,.string c.tx,.slice c.gA c.gn c.gc]] w λe w'=>e=.returned (.string (qm1 c))/\Below w.heap.size w w':=by
 obtain⟨kind,key,val,to',gA,gn,gc⟩:=c;simp only at hk hv ⊢;have i1:key.size+val.size<=9223372036854775807:=by omega
 go_enter func302,ntmps302;go_wp2;all_goals(go_ret;exact⟨qyq (by first|(simp_all [qm1];done)|(simp_all [qm1];rfl)),(by repeat(first|exact Below.refl _ _|assumption|refine Below.drew ?_|refine qa1 ?_ _|refine Below.alloc ?_ (by first|omega|simp <;> omega) _|refine Below.setCell ?_ (by first|omega|simp <;> omega) _))⟩)
end
section
open Go.RowKit
theorem qm3(w:World){b off dLen dCap:Nat}{m:ByteArray}{t:TypeId}{l:List UInt8}(row:RowB w b t l)(hfit:off+dLen<=l.length):∃w',(∀ty,(Builtin.copy_ #[86,9] ty #[.slice (some ⟨b,off,none⟩) dLen dCap,.string m]).run prog w=.ok (.int .i64 ((Nat.min m.size dLen:Nat):Int)) w')/\RowB w' b t (qbj l off ((bl m).take dLen))/\(∀k,k≠b->w'.heap[k]? =w.heap[k]?)/\∀lo w0,Below lo w0 w->lo<=b->Below lo w0 w':=by
 have hm:Nat.min m.size dLen<=dLen:=Nat.min_le_right _ _;have hb:((bl m).take dLen).length=Nat.min m.size dLen:=by rw[List.length_take,qfc,Nat.min_comm]
 have hlen:(byC ((bl m).take dLen)).length=Nat.min m.size dLen:=by rw[qad,hb]
 have hst:=Go.run_storeCells_at prog b off t (byC ((bl m).take dLen)) 0 (byC l).toArray w row (by rw[hlen,List.size_toArray,qad];omega) qcw;rw[hlen]at hst;simp only[Nat.add_zero]at hst;have htk:List.take (Nat.min m.size dLen) (List.map (λb:UInt8=>Value.int IntKind.u8 (b.toNat:Int)) m.data.toList)=byC ((bl m).take dLen):=by
  rw[<-List.map_take];show byC ((bl m).take (Nat.min m.size dLen))=byC ((bl m).take dLen)
  congr 1;have:=qfc m;rcases Nat.le_total m.size dLen with h|h
  · rw[show Nat.min m.size dLen=m.size from Nat.min_eq_left h,List.take_of_length_le (by omega),List.take_of_length_le (by omega)]
  · rw[show Nat.min m.size dLen=dLen from Nat.min_eq_right h]
 have hi:(prog.info? 5).map (·.size)=some 1:=by
  have:=qcu;cases hq:prog.info? 5 with
  |none=>rw[hq]at this;cases this
  |some i=>rw[hq]at this;simp at this;simp[this]
 have hr:∀ty,(Builtin.copy_ #[86,9] ty #[.slice (some ⟨b,off,none⟩) dLen dCap,.string m]).run prog w=.ok (.int .i64 ((Nat.min m.size dLen:Nat):Int)) (w.setRow b ((byC l).toArray.toList.take off++byC ((bl m).take dLen)++(byC l).toArray.toList.drop (off+Nat.min m.size dLen)).toArray):=λty=>by
  cases hq:prog.info? 5 with
  |none=>simp[hq]at hi
  |some i =>
   rw[hq]at hi;simp only[Option.map_some,Option.some.injEq]at hi;simp[Builtin.copy_,run_underlying (underlying86),Builtin.lenOf,Builtin.firstCells,sizeOf,typeInfo,hq];first
    |(rw[htk,hst];simp[Result.andThen];done)
    |(erw [htk];erw [hst];simp[Result.andThen,goInt];done)
 have e:((byC l).toArray.toList.take off++byC ((bl m).take dLen)++(byC l).toArray.toList.drop (off+Nat.min m.size dLen)).toArray=(byC (qbj l off ((bl m).take dLen))).toArray:=by
  rw[qbj,hb];simp[byC]
 rw[e]at hr;exact⟨_,hr,setRow_heap w b _ _ t (0,0) row,λk hk=>setRow_other w b k _ hk,λlo w0 hb hlo=>below_setRow hb hlo _⟩
def qii(c:qa7)(k:Int)(p:Nat):List UInt8:=if p=0 then qgj k else qbj ((zeros 64).set 0 2) 1 (((bl (qm1 c)).drop (28+(p-1)*63)).take 63)
theorem qqn{k:Int}(hk:¬qa9 k=0):(qgj k).length=64:=qcv _ (by rw[zeros,List.length_replicate];have:=qfa k hk;omega)
section
variable {g:Own8}{w:World}{lo a b t:Nat}{P:qag}{M:qa4}{ty:TypeId}{f:qa5}{d:FrD}
def qph(a:Nat)(P:qag)(M:qa4)(D:List qab)(v:Value)(g:Own8)(w:World)(e:Ending)(w':World):Prop:=e=.returned v/\ATo g w w' a P {M with D:=D}
theorem qgb(h:qa6 g w a P M)(i:Nat)(hi:i<M.D.length)(m:List UInt8)(A:Option Addr)(c:Nat)(hA:Arr byE 1 w w.heap.size A m)(hm:m≠ [])(hfit:m.length<=64)(hc:m.length<=c):
 Calls prog 105 #[.pointer (some ⟨P.dp,0,none⟩),.int .i64 (i:Int),.int .i64 0,.slice A m.length c] w (qph a P M (M.D.set i (M.D[i].over 0 m)) (.int .i64 0) g w):=by
 refine(qh7 w 0 P.dp P.dc M.D h.dev.2.1 i 0 hi m A c hA hm (by omega) hc).mono ?_;rintro e w'⟨rfl,hd,ho⟩;exact⟨rfl,h.setDev (qcx.of2 ho.below (λj hj h1 h2=>ho.keep j hj h1 h2) h.dev.2.2.2.1 h.dev.2.2.2.2) hd⟩
theorem qnt(h:qa6 g w a P M)(c:qa7)(n:Nat)(k:Int)(hk:¬qa9 k=0)(hn:n<M.D.length):
 Calls prog 247 #[.pointer (some ⟨a,0,none⟩),.agg #[.int .i64 c.kind,.string c.key,.string c.val,.string c.tx,.slice c.gA c.gn c.gc],.int .i64 (n:Int),.int .i64 k,.int .i64 0] w (qph a P M (M.D.set n (M.D[n].over 0 (qgj k))) (.bool (qa9 k==1)) g w):=by
 obtain⟨kind,key,val,to',gA,gn,gc⟩:=c;have H:=hid h;have HK:=hid hk;have hd64:=qqn hk;have HD64:=hid hd64;have hs:qa9 k<=8:=by unfold qa9;repeat(first|split|omega)
 have hv:(qa9 k==1)=decide ((1:Int)=(qa9 k:Int)):=by rw[Bool.eq_iff_iff];simp;omega
 rw[hv];clear h hk hd64 hv;go_enter func247,ntmps247;go_wp2_with fail;obtain⟨w1,hw1⟩:∃w1,w1=w.alloc (.cells #[.int .i64 kind,.string key,.string val,.string to',.slice gA gn gc] 40):=⟨_,rfl⟩;rw[<-hw1];have b1:Below w.heap.size w w1:=by rw[hw1];exact(Below.refl _ _).alloc (Nat.le_refl _) _
 have H1:=hid (H.out.below b1);have HB1:=hid b1;clear hw1 b1;refine(qek H1.out).mono ?_;rintro e w2⟨rfl,rfl⟩;go_wp2_with fail;refine(qr2 k w2 HK.out).mono ?_;rintro e w3⟨A,c,rfl,hown,hb3⟩;have HB3:=hid hb3;have HO:=hid hown;have H3:=hid (H1.out.below hb3);rw[HD64.out];clear hown hb3;go_wp2_with fail;have TS:=qgb H3.out n hn (qgj k) A c (HO.out.arr qbn) (by intro h0;have:=HD64.out;rw[h0]at this;simp at this) (by rw[HD64.out];omega) HO.out.len;rw[HD64.out]at TS;refine TS.mono ?_;rintro e w4⟨rfl,g4,A4,E4⟩;have HA4:=hid A4;have HE4:=hid E4;clear A4 E4 TS;go_wp2_with fail;refine(qaw k w4).mono ?_;rintro e w5⟨rfl,rfl⟩;go_wp2_with fail;go_ret;exact⟨rfl,g4,HA4.out,(Ext.below (HB1.out.trans (HB3.out.mono HB1.out.size))).trans HE4.out⟩
theorem qqq{c:qa7}(hk:c.key.size<=1000)(hv:c.val.size<=1000):(qm1 c).size<=2000:=by
 unfold qm1;split
 · rw[ByteArray.size_append];omega
 · split
   · omega
   · exact Nat.zero_le _
theorem qql(s:ByteArray)(k n:Nat)(hn:s.size<=n):bl (s.extract k n)=(bl s).drop k:=by
 have e:s=strB (bl s):=rfl;rw[e,qe0];show List.take (n-k) (List.drop k (bl s))=List.drop k (bl s)
 exact List.take_of_length_le (by rw[List.length_drop,qfc];omega)
theorem qnu(h:qa6 g w a P M)(c:qa7)(hck:c.key.size<=1000)(hcv:c.val.size<=1000)(n p:Nat)(k:Int)(hp:1<=p)(hp8:p<=8)(hn:n+p<M.D.length):
 Calls prog 247 #[.pointer (some ⟨a,0,none⟩),.agg #[.int .i64 c.kind,.string c.key,.string c.val,.string c.tx,.slice c.gA c.gn c.gc],.int .i64 (n:Int),.int .i64 k,.int .i64 (p:Int)] w (qph a P M (M.D.set (n+p) (M.D[n+p].over 0 (qii c k p))) (.bool (decide (p+1=qa9 k))) g w):=by
 have hlen:M.D.length<=258:=h.dev.2.1.len.2;have hds:=qqq hck hcv;have TB:=λW=>qqk c W (by omega) (by omega)
 have hwl:qii c k p=qbj ((zeros 64).set 0 2) 1 (((bl (qm1 c)).drop (28+(p-1)*63)).take 63):=if_neg (by omega);have HWL:=hid hwl;have HTB:=hid TB;have H:=hid h;generalize qm1 c=s at *;obtain⟨kind,key,val,to',gA,gn,gc⟩:=c;obtain⟨q,hq⟩:∃q,q=p-1:=⟨_,rfl⟩;obtain⟨np,hnp⟩:∃x,x=n+p:=⟨_,rfl⟩;obtain⟨p1,hp1⟩:∃x,x=p+1:=⟨_,rfl⟩;obtain⟨fr,hfr⟩:∃x,x=28+q*63:=⟨_,rfl⟩;obtain⟨fm,hfm⟩:∃x,x=min fr s.size:=⟨_,rfl⟩;have hpb:((p:Int)==0)=false:=by rw[beq_eq_false_iff_ne];omega
 have hi1:IntKind.i64.wrap ((p:Int)-1)=(q:Int):=by rw[Go.IntWalk.i64_in _ (by omega)];omega
 have hi2:IntKind.i64.wrap ((q:Int)*63)=(q:Int)*63:=Go.IntWalk.i64_in _ (by omega);have hi3:IntKind.i64.wrap (28+(q:Int)*63)=(fr:Int):=by rw[Go.IntWalk.i64_in _ (by omega)];omega
 have hi4:IntKind.i64.wrap ((n:Int)+(p:Int))=(np:Int):=by rw[Go.IntWalk.i64_in _ (by omega)];omega
 have hi5:IntKind.i64.wrap ((p:Int)+1)=(p1:Int):=by rw[Go.IntWalk.i64_in _ (by omega)];omega
 have HI4:=hid hi4;have HI5:=hid hi5;have hmx:max (fr:Int) 0=(fr:Int):=by omega
 have hmn:min (fr:Int) (s.size:Int)=(fm:Int):=by omega
 have hfs:(fm:Int)<=(s.size:Int):=by omega
 have hf0:(0:Int)<=(fm:Int):=by omega
 have HE:Hid (n+p=np/\p+1=p1/\q=p-1/\fr=28+q*63/\fm=min fr s.size):=hid ⟨hnp.symm,hp1.symm,hq,hfr,hfm⟩;obtain⟨L,hL⟩:∃L,L=qii ⟨kind,key,val,to',gA,gn,gc⟩ k p:=⟨_,rfl⟩;have HL:=hid hL;have hn':np<M.D.length:=by omega
 have HEQ:M.D.set (n+p) (M.D[n+p].over 0 (qii ⟨kind,key,val,to',gA,gn,gc⟩ k p))=M.D.set np (M.D[np].over 0 L):=by subst hL;subst hnp;rfl
 have HV:decide (p+1=qa9 k)=((p1:Int)==(qa9 k:Int)):=by rw[Bool.eq_iff_iff];simp;omega
 rw[HEQ,HV];clear h TB hwl hck hcv hq hnp hp1 hfr hfm hi4 hi5 hL HEQ HV;go_enter func247,ntmps247;go_upto_region 3 with fail;obtain⟨w1,hw1⟩:∃w1,w1=w.alloc (.cells #[.int .i64 kind,.string key,.string val,.string to',.slice gA gn gc] 40):=⟨_,rfl⟩;rw[<-hw1];have b1:Below w.heap.size w w1:=by rw[hw1];exact(Below.refl _ _).alloc (Nat.le_refl _) _
 have R1:w1.heap[w.heap.size]? =some (.cells #[.int .i64 kind,.string key,.string val,.string to',.slice gA gn gc] 40 (0,0)):=by rw[hw1];exact(qa2 _ _ _).trans (if_pos rfl)
 obtain⟨w2,HMK0,R2,hb2,hs2⟩:=qnd 64 (by omega) w1;obtain⟨B,hB⟩:∃B,B=w1.heap.size:=⟨_,rfl⟩;rw[<-hB]at R2 HMK0 hs2;have HMK:(Instr.makeSlice 86 (.int .i64 64) (.int .i64 64)).run prog w1=.ok (.slice (some ⟨B,0,none⟩) 64 64) w2:=HMK0;have b2:Below w.heap.size w w2:=b1.trans (hb2.mono b1.size);have R12:=qac hb2 (qa0 R1) R1;have hl0:=qa0 R1;have hBw:w.heap.size<B:=by omega
 have z0:=R2.cell (i:=0) (by simp[zeros]);have f0:=frozen_of_row w2 _ 0 _ _ R2;have hl2:=qa0 R2;have HR2:=hid R2;have HR12:=hid R12;have HB2:=hid b2;clear hw1 b1 R1 hb2 hs2 b2 R2 R12 hB hl0 HMK0;go_upto_region 5 with fail;obtain⟨w3,hw3⟩:∃w3,w3=w2.setCell ⟨B,0,none⟩ (.int .u8 2):=⟨_,rfl⟩;rw[<-hw3];have R3:RowB w3 B 5 ((zeros 64).set 0 2):=by rw[hw3];exact HR2.out.put1 0 2
 have R13:=(show w3.heap[w.heap.size]? =w2.heap[w.heap.size]? by rw[hw3];exact Below.heap_setCell _ _ _ _ (by show w.heap.size≠B;omega)).trans HR12.out;have B3:Below w.heap.size w w3:=by rw[hw3];exact HB2.out.setCell (Nat.le_of_lt hBw) _
 have k0:=cell_of_row w3 _ 0 _ _ _ R13;have k1:=cell_of_row w3 _ 1 _ _ _ R13;have k2:=cell_of_row w3 _ 2 _ _ _ R13;have k3:=cell_of_row w3 _ 3 _ _ _ R13;have k4:=cell_of_row w3 _ 4 _ _ _ R13;have hl3:=qa0 R13;have HR3:=hid R3;have HB3:=hid B3;clear hw3 z0 f0 hl2 R3 R13 B3 HR2 HR12 HB2;go_wp2_with fail;refine(HTB.out w3).mono ?_;rintro e w4⟨rfl,hb4⟩;have HR4:=hid (HR3.out.below hb4 (qa0 HR3.out));have HB4:=hid (HB3.out.trans (hb4.mono HB3.out.size));have hl4:=qa0 HR4.out;clear k0 k1 k2 k3 k4 hl3 hb4 HR3 HB3;go_upto_region 7 with fail;go_still_tail 5,(by kernel_rfl);change wpList _ _ _ _ _ (World.drew w4);generalize hw5:World.drew w4=w5;have HR5:Hid (RowB w5 B 5 ((zeros 64).set 0 2)):=hid (by rw[<-hw5];exact HR4.out);have HB5:Hid (Below w.heap.size w w5):=hid (by rw[<-hw5];exact HB4.out.drew);have hs5:w5.heap.size=w4.heap.size:=by rw[<-hw5];rfl
 obtain⟨w6,HCP,R6,O6,B6⟩:=qm3 w5 (off:=1) (dLen:=63) (dCap:=63) (m:=s.extract fm s.size) HR5.out (by simp[zeros]);have HR6:=hid R6;have HB6:=hid (B6 _ _ HB5.out (Nat.le_of_lt hBw));have HL6:=hid (qa0 R6);generalize Nat.min (s.extract fm s.size).size 63=nc at HCP;clear hw5 hs5 R6 O6 B6 HR4 HB4 HR5 HB5 hl4;go_upto_region 8 with fail;have HE1:=HE.out;have hw8:qbj ((zeros 64).set 0 2) 1 ((bl (s.extract fm s.size)).take 63)=L:=by
  rw[HL.out,HWL.out,qql s fm s.size (Nat.le_refl _),HE1.2.2.2.2,HE1.2.2.2.1,HE1.2.2.1];congr 2;rcases Nat.le_total (28+(p-1)*63) s.size with h0|h0
  · rw[Nat.min_eq_left h0]
  · rw[Nat.min_eq_right h0,List.drop_of_length_le (by rw[qfc];exact Nat.le_refl _),List.drop_of_length_le (by rw[qfc];exact h0)]
 have R6:=HR6.out;rw[hw8]at R6;have hlw:L.length=64:=by
  rw[<-hw8,qc1 (by simp[zeros];omega)];simp[zeros]
 have H6:=hid (H.out.below HB6.out);have HLN:=hid hlw;have R6A:=R6.arr0;have HRA:=hid R6A;have i4:=HI4.out;clear HE1 hw8 R6 R6A hlw HR6 HL6 HWL HE HCP HL;go_wp2_with fail;refine(qek H6.out).mono ?_;rintro e w7⟨rfl,rfl⟩;clear HMK hi1 hi2 hi3 hmx hmn hfs hf0 hpb;go_wp2_with fail;have TS:=qgb H6.out np hn' L (some ⟨B,0,none⟩) 64 HRA.out (by intro h0;have:=HLN.out;rw[h0]at this;simp at this) (by rw[HLN.out];omega) (by rw[HLN.out];omega);rw[HLN.out]at TS;refine TS.mono ?_;rintro e w8⟨rfl,g8,A8,E8⟩;have HA8:=hid A8;have HE8:=hid E8;clear A8 E8 TS i4;have i5:=HI5.out;go_wp2_with fail;refine(qaw k w8).mono ?_;rintro e w9⟨rfl,rfl⟩;go_wp2_with fail;go_ret;exact⟨rfl,g8,HA8.out,(Ext.below HB6.out).trans HE8.out⟩
end
end
section
open Go.RowKit
section
variable {g:Own8}{w:World}{lo a b t:Nat}{P:qag}{M:qa4}{ty:TypeId}{f:qa5}{d:FrD}
def quf(lo a:Nat)(P:qag)(M:qa4)(b t:Nat)(ty:TypeId)(f:qa5)(d:FrD)(now:List UInt8)(pc:Nat)(last:Bool)(g:Own8)(w:World)(r:Ending)(w':World):Prop:=
 ∃A' c',r=.returned (.bool last)/\WTo lo a P b t ty g w M {f with bA:=A',bn:=d.bs.length+now.length,bc:=c',piece:=((pc+1:Nat):Int)} {d with bs:=d.bs++now} w'
theorem qm0(h:WSt g w lo a P M b t ty f d)(ol pc:Nat)(hol:f.old.line=(ol:Int))(hpc:f.piece=(pc:Int))(hi:ol+pc<M.D.length)(hb:d.bs.length<=1000)(hlo:lo<=w.heap.size):Calls prog 242 #[.pointer (some ⟨a,0,none⟩),.pointer (some ⟨b,2,none⟩)] w (quf lo a P M b t ty f d M.D[ol+pc].now pc (decide (pc+1=qa9 f.old.cls)) g w):=by
 obtain⟨i,hi0⟩:∃i,i=ol+pc:=⟨_,rfl⟩;have hi':i<M.D.length:=by omega
 have hD:M.D[ol+pc].now=M.D[i].now:=by subst hi0;rfl
 rw[hD];have hln:=M.D[i].hn;have TL:=λW (hW:Below w.heap.size w W)=>qow W 0 P.dp P.dc M.D (h.ar.below hW).dev.2.1 i hi'
 generalize M.D[i].now=now at *;have hlen:M.D.length<=258:=h.ar.dev.2.1.len.2;obtain⟨p1,hp1⟩:∃x,x=pc+1:=⟨_,rfl⟩;have hw1:IntKind.i64.wrap ((ol:Int)+(pc:Int))=(i:Int):=by rw[Go.IntWalk.i64_in _ (by omega)];omega
 have hw2:IntKind.i64.wrap ((pc:Int)+1)=(p1:Int):=by rw[Go.IntWalk.i64_in _ (by omega)];omega
 have hv:decide (pc+1=qa9 f.old.cls)=((p1:Int)==(qa9 f.old.cls:Int)):=by rw[Bool.eq_iff_iff];simp;omega
 rw[hv];have H:=hid h;have c16:=h.box.c 16 rfl;have c20:=h.box.c 20 rfl;rw[hol]at c16;rw[hpc]at c20;have hl:=h.box.lt;have TD:=hid (λW (hW:Below w.heap.size w W)=>qek (h.below hW).ar);have HTL:=hid TL;have HLN:=hid hln;have HP1:=hid hp1;have HPC:=hid hpc;clear h hv hD TL hi hi0 hi' hln hp1 hol hpc;go_enter func242,ntmps242;go_upto_region 1 with fail;go_cut [5,6] (λv5 v6 wx=>∃A2 c2,v5=.slice A2 64 c2/\v6=.int .i64 0/\Own byE 5 1 wx w.heap.size A2 c2 now/\Below w.heap.size w wx)
 case first =>
  go_region_with (first|(go_at_call 32;refine(TD.out _ ?_).mono ?_;exact(by with_reducible repeat(first|exact Below.refl _ _|assumption|refine Below.drew ?_|refine qa1 ?_ _|refine Below.alloc ?_ (by first|omega|simp <;> omega) _|refine Below.setCell ?_ (by first|omega|simp <;> omega) _));rintro e w1⟨rfl,rfl⟩)|(go_at_call 87;refine(HTL.out _ ?_).mono ?_;exact(by with_reducible repeat(first|exact Below.refl _ _|assumption|refine Below.drew ?_|refine qa1 ?_ _|refine Below.alloc ?_ (by first|omega|simp <;> omega) _|refine Below.setCell ?_ (by first|omega|simp <;> omega) _));rintro e w2⟨A2,c2,rfl,hown2,hb2⟩;have HO2:=hid hown2;have HB2:=hid hb2;clear hown2 hb2));all_goals
   go_wp2_with fail;go_meet;exact⟨A2,c2,rfl,rfl,HO2.out.lower (Nat.le_refl _),(show Below w.heap.size w _ from Below.trans (by with_reducible repeat(first|exact Below.refl _ _|assumption|refine Below.drew ?_|refine qa1 ?_ _|refine Below.alloc ?_ (by first|omega|simp <;> omega) _|refine Below.setCell ?_ (by first|omega|simp <;> omega) _)) (HB2.out.mono (Nat.le_refl _)))⟩
 obtain⟨A2,c2,rfl,rfl,hown2,hb2⟩:=hcut;obtain⟨w2,hw2⟩:∃x,x=wc:=⟨_,rfl⟩;subst hw2;have h2:=H.out.below hb2;have H2:=hid h2;have HO2:=hid hown2;have HB2:=hid hb2;have c21:=h2.box.c 21 rfl;have hl2:=h2.box.lt;have HL2:=hid (show lo<=w2.heap.size by have:=hb2.size;omega);rw[h2.byt.2.1]at c21;clear HTL TD hown2 hb2 h2 c16 c20 hl H;go_wp2_with(at_builtin;refine qdw (l:=d.bs) (m:=now) (A:=f.bA) (c:=f.bc) (lo:=lo) _ rfl (.tmp 27) (.tmp 28) rfl (by simp[Act.eval]) H2.out.byt.1 (A2:=A2) c2 (by rw[HLN.out];simp[Act.eval]) (HO2.out.arr qbn) (by rw[HLN.out];omega) HL2.out ?_;intro A3 c3 w3 hown3 hgr3 hloc3;have b3:qbq w3 b a t ty f:=(hgr3.block b H2.out.box.lt (λe=>H2.out.byt.1.notBox H2.out.box H2.out.hty.ne.1 e)).trans H2.out.box;have f21:=b3.fr 21;have f20:=b3.fr 20;have hl3:=b3.lt;have c20:=b3.c 20 (v:=.int .i64 (pc:Int)) (by rw[<-HPC.out];rfl);have c21w:=b3.c 21 rfl);obtain⟨h4,e4⟩:=H2.out.newBytes (n':=d.bs.length+now.length) hgr3 hown3 (by rw[List.length_append]) hloc3;have H4:=hid h4;have HE4:=hid e4;generalize World.setCell w3 _ _=w4 at *;clear h4 e4 b3 hgr3 hown3 hloc3 c21 c21w f21 hl2 hl3 H2 HO2 c20;have H5:=hid (H4.out.set 20 (.int .i64 (p1:Int)) {f with bA:=A3,bn:=d.bs.length+now.length,bc:=c3,piece:=(p1:Int)} rfl ⟨rfl,rfl,rfl,rfl⟩);have HE5:=hid (HE4.out.trans (ExtB.set (lo:=lo) 20 (.int .i64 (p1:Int))));generalize World.setCell w4 _ _=w5 at *;have c20:=H5.out.box.c 20 rfl;have c17:=H5.out.box.c 17 rfl;have hl5:=H5.out.box.lt;have TS:=λW=>qaw f.old.cls W
 clear f20;go_quiet (exact Calls.quiet_of_same (TS _));go_wp2_with fail;go_ret;have hsz:=HB2.out;exact⟨A3,c3,rfl,g,by have:=HP1.out;subst this;exact H5.out.drewN _,(ExtB.below hsz).trans (HE5.out.trans (ExtB.below (qa1 (Below.refl _ _) _)))⟩
end
end
section
open Go.RowKit
section
variable {g:Own8}{w:World}{lo a b t:Nat}{P:qag}{M:qa4}{ty:TypeId}{f:qa5}{d:FrD}
def valB(r:Option BlkC)(old:qa3)(kind:Int):ByteArray×Bool:=match r with
 |none=>(ByteArray.empty,false)
 |some x=>(x.val,(((x.kind==kind&&((x.id:Int)==(old.id:Int)))&&((x.ver:Int)==(old.ver:Int)))&&(x.key.toList==old.key.toList)))
def qxk(lo a:Nat)(P:qag)(M:qa4)(b t:Nat)(ty:TypeId)(f:qa5)(d:FrD)(v:ByteArray×Bool)(g:Own8)(w:World)(r:Ending)(w':World):Prop:=
 r=.returned (.tuple #[.string v.1,.bool v.2])/\WTo lo a P b t ty g w M {f with bA:=none,bn:=0,bc:=0} {d with bs:=[]} w'
theorem WSt.noBytes(h:WSt g w lo a P M b t ty f d):WSt g (w.setCell ⟨b,21,none⟩ (.slice none 0 0)) lo a P M b t ty {f with bA:=none,bn:=0,bc:=0} {d with bs:=[]}:=by
 have hne:=h.hty.ne;have hk:∀j,j≠b->(w.setCell ⟨b,21,none⟩ (.slice none 0 0)).heap[j]? =w.heap[j]? :=λj hj=>Below.heap_setCell _ _ _ _ hj
 have hz:w.heap.size<=(w.setCell ⟨b,21,none⟩ (.slice none 0 0)).heap.size:=by rw[World.size_setCell];exact Nat.le_refl _
 exact⟨h.ar.set0 h.gb 21 _,h.box.set 21 _ _ rfl,h.gb,h.hty,h.grp.keep hz (λj _ _ hj _=>hk j hj) λ_ _=>rfl,RowG.nil,
  h.prt.keep (λj _ _ hr=>hk j λe=>h.prt.1.notBox h.box hne.2.1 (e ▸ hr)) λ_ _=>rfl,
  h.hit.keep (λj _ _ hr=>hk j λe=>h.hit.1.notBox h.box hne.2.2 (e ▸ hr)) λ_ _=>rfl⟩
theorem qj5(h:WSt g w lo a P M b t ty f d)(kind:Int)(hb:d.bs.length<=1000000):Calls prog 243 #[.pointer (some ⟨b,2,none⟩),.int .i64 kind] w (qxk lo a P M b t ty f d (valB (decB d.bs) f.old kind) g w):=by
 have H:=hid h;have c21:=h.box.c 21 rfl;rw[h.byt.2.1]at c21;have hl:=h.box.lt;have TD:=hid (qi0 d.bs f.bA f.bc w (h.byt.1.arr qbn) hb h.byt.1.len h.byt.1.max);generalize hr:decB d.bs=r at *;clear h hb hr;go_enter func243,ntmps243;go_wp2_with fail;refine TD.out.mono ?_;rintro e w1⟨rfl,hb1⟩;have h1:=H.out.below hb1;have HB1:=hid hb1;obtain⟨x,ok,hx⟩:∃(x:BlkC) (ok:Bool),decV r=.tuple #[x.v,.bool ok]/\valB r f.old kind=(x.val,ok&&(((x.kind==kind&&((x.id:Int)==(f.old.id:Int)))&&((x.ver:Int)==(f.old.ver:Int)))&&(x.key.toList==f.old.key.toList))):=by
  cases r with
  |none=>exact⟨blk0,false,rfl,rfl⟩
  |some x=>exact⟨x,true,rfl,rfl⟩
 rw[hx.1];have HV0:=hid hx.2;have HXV:=hid (show x.v=.agg #[.int .i64 x.cls,.int .i64 x.kind,.int .u64 (x.id:Int),.int .u64 (x.ver:Int),.int .u64 (x.ep:Int),.string x.key,.string x.val]from rfl);rw[HXV.out];clear hx hb1 TD c21 hl;have H1:=hid h1;have c21:=h1.box.c 21 rfl;have f21:=h1.box.fr 21;have hl1:=h1.box.lt;clear h1 H;go_wp2_with fail;obtain⟨w2,hw2⟩:∃w2,w2=w1.setCell ⟨b,21,none⟩ (.slice none 0 0):=⟨_,rfl⟩;rw[<-hw2];have H2:=hid (show WSt g w2 lo a P M b t ty {f with bA:=none,bn:=0,bc:=0} {d with bs:=[]}by rw[hw2];exact H1.out.noBytes);have HE2:=hid (show ExtB lo b g g w w2 by rw[hw2];exact(ExtB.below HB1.out).trans (ExtB.set _ _));have hs2:w2.heap.size=w1.heap.size:=by rw[hw2,World.size_setCell]
 rw[<-hs2];generalize hw3:World.alloc w2 _=w3;have b3:Below w2.heap.size w2 w3:=by rw[<-hw3];exact(Below.refl _ _).alloc (Nat.le_refl _) _
 have R3:w3.heap[w2.heap.size]? =some (.cells x.enc.toArray 203 (0,0)):=by rw[<-hw3];exact(qa2 _ _ _).trans (if_pos rfl)
 have H3:=hid (H2.out.below b3);have HE3:=hid (HE2.out.trans (ExtB.below b3));obtain⟨y0,y1,y2,y3,y4,y5,y6⟩:=BlkC.cells R3;have c13:=H3.out.box.c 13 rfl;have c14:=H3.out.box.c 14 rfl;have c15:=H3.out.box.c 15 rfl;have hlb:=H3.out.box.lt;have hlx:=qa0 R3;have HV:=HV0;clear hw2 hs2 hw3 b3 R3 c21 f21 hl1 H1 H2 HE2 HB1 HXV HV0 y0 y4;cases ok with
 |false=>(go_quiet (fail);go_wp2_with fail;go_ret2;exact⟨by rw[HV.out];rfl,g,H3.out.drewN _,HE3.out.trans (ExtB.below (qa1 (Below.refl _ _) _))⟩)
 |true =>
  cases h1:(x.kind==kind)with
  |false=>rw[h1]at HV;(go_quiet (fail);go_wp2_with fail;go_ret2;exact⟨by rw[HV.out];rfl,g,H3.out.drewN _,HE3.out.trans (ExtB.below (qa1 (Below.refl _ _) _))⟩)
  |true =>
   cases h2:((x.id:Int)==(f.old.id:Int))with
   |false=>rw[h1,h2]at HV;(go_quiet (fail);go_wp2_with fail;go_ret2;exact⟨by rw[HV.out];rfl,g,H3.out.drewN _,HE3.out.trans (ExtB.below (qa1 (Below.refl _ _) _))⟩)
   |true =>
    cases h3:((x.ver:Int)==(f.old.ver:Int))with
    |false=>rw[h1,h2,h3]at HV;(go_quiet (fail);go_wp2_with fail;go_ret2;exact⟨by rw[HV.out];rfl,g,H3.out.drewN _,HE3.out.trans (ExtB.below (qa1 (Below.refl _ _) _))⟩)
    |true=> 
     cases h4:(x.key.toList==f.old.key.toList)with
     |false=>rw[h1,h2,h3,h4]at HV;(go_quiet (fail);go_wp2_with fail;go_ret2;exact⟨by rw[HV.out];rfl,g,H3.out.drewN _,HE3.out.trans (ExtB.below (qa1 (Below.refl _ _) _))⟩)
     |true=>rw[h1,h2,h3,h4]at HV;(go_quiet (fail);go_wp2_with fail;go_ret2;exact⟨by rw[HV.out];rfl,g,H3.out.drewN _,HE3.out.trans (ExtB.below (qa1 (Below.refl _ _) _))⟩)
end
end
section
open Go.RowKit
def qee(e:Nat)(x:ChgC):Prop:=qbv x=true->mayB (qca x 1 1 e)=true/\(qca x 1 1 e).cls=x.cls
def quq(e:Nat)(l:List ChgC)(w:World)(r:Ending)(w':World):Prop:=∃code:Int,r=.returned (.int .i64 code)/\Below w.heap.size w w'/\(code=0->∀i (h:i<l.length),qee e l[i])/\(code≠0->∃i,∃h:i<l.length,¬qee e l[i])
section
variable {g:Own8}{w:World}{a:Nat}{P:qag}{M:qa4}
theorem qwm(h:qa6 g w a P M)(l:List ChgC)(A:Option Addr)(c e:Nat)(hA:Arr ChgC.enc 11 w w.heap.size A l)(_hc:l.length<=c)(_hm:c<=9223372036854775807)(hl:l.length<=100000)(hid0:M.id<=1000000)(hver0:M.ver<=1000000)(hsz:∀x∈l,x.key.size<=1000000/\x.val.size<=1000000):
 Calls prog 307 #[.pointer (some ⟨a,0,none⟩),.slice A l.length c,.int .u64 (e:Int)] w (quq e l w):=by
 have TN:=hid (qnb h);have HA:=hid hA;have HSZ:=hid hsz;clear h hA hsz;generalize M.id=d0 at *;generalize M.ver=v0 at *;go_enter func307,ntmps307;go_wp2_with fail;refine TN.out.mono ?_;rintro r0 w1⟨rfl,nq,rfl⟩;have HB1:=hid (qa1 (Below.refl w.heap.size w) nq);generalize World.drewN w nq=w1 at *;clear TN;go_wp2_with fail;go_loopw [7,8,9,20] (λv7 v8 v9 v20 wr=>∃k d v:Nat,k<=l.length/\d<=d0+k/\v<=v0+k/\v7=.int .u64 d/\v8=.int .u64 v/\v9=.bool false/\v20=.int .i64 k/\(∀i (h:i<l.length),i<k->qee e l[i])/\Below w.heap.size w wr) (λ_ _ _ v20 _=>l.length-(intOf v20).toNat)
 case atStart=>exact⟨0,d0,v0,Nat.zero_le _,Nat.le_refl _,Nat.le_refl _,rfl,rfl,rfl,rfl,λi _ hi=>absurd hi (Nat.not_lt_zero i),HB1.out⟩
 case round =>
  obtain⟨k,d,v,hkl,hd,hv,rfl,rfl,rfl,rfl,hno,hbr⟩:=hrel;have HNO:=hid hno;have HBR:=hid hbr;clear hno HB1;by_cases hlt:k<l.length
  · obtain⟨b,off,rfl,hB,k0,k1,k2,k3,k4,k5,k6,k7,k8,k9,kA⟩:=((HA.out.below hbr).more hbr.size).chg hlt
    have i1:(0:Int)<=(k:Int):=by omega
    have i2:(k:Int)<(l.length:Int):=by omega
    obtain⟨x,hx⟩:∃x,x=l[k]:=⟨_,rfl⟩;have hxs:=HSZ.out l[k] (List.getElem_mem hlt);rw[<-hx]at k0 k1 k2 k3 k4 k5 k6 k7 k8 k9 kA hxs;have HX:=hid hx;have HXS:=hid hxs;clear hbr hx hxs;go_upto_region 6 with fail;generalize hw2:World.alloc _ _=w2;have R0:w2.heap[wr.heap.size]? =some (.cells x.enc.toArray 376 (0,0)):=by rw[<-hw2];exact qea _ x _
    have b2:Below w.heap.size w w2:=by rw[<-hw2];exact HBR.out.alloc HBR.out.size _
    obtain⟨c0,c1,c2,c3,c4,c5,c6,c7,c8,c9,cA⟩:=ChgC.cells R0;have hl0:=qa0 R0;have HR0:=hid R0;have HB2:=hid b2;obtain⟨vb,hvb⟩:∃vb,vb=wr.heap.size:=⟨_,rfl⟩;rw[<-hvb]at HR0 c0 c1 c2 c3 c4 c5 c6 c7 c8 c9 cA hl0 ⊢;have HXV:=hid x.v_eq;clear hw2 R0 b2 k0 k1 k2 k3 k4 k5 k6 k7 k8 k9 kA hvb hB;go_wp2_with fail;have TM:=qf4 x w2;rw[HXV.out]at TM;refine TM.mono ?_;rintro r w3⟨rfl,hb3⟩;have R0:=qac hb3 hl0 HR0.out;obtain⟨c0,c1,c2,c3,c4,c5,c6,c7,c8,c9,cA⟩:=ChgC.cells R0;have hl0:=qa0 R0;have HR0:=hid R0;have HB3:=hid (HB2.out.trans (hb3.mono HB2.out.size));clear hb3 TM R0 HB2 HBR;cases hnd:qbv x with
    |false =>
     have HND:=hid hnd;clear hnd;go_wp2_with fail;exact⟨⟨k+1,d,v,by omega,by omega,by omega,rfl,rfl,rfl,by go_num,λi hi h2=>(by
      by_cases hik:i=k
      · subst hik;intro hn;rw[<-HX.out,HND.out]at hn;cases hn
      · exact HNO.out i hi (by omega)),HB3.out⟩,by simp[intOf];omega⟩
    |true =>
     have HND:=hid hnd;clear hnd;go_wp2_with fail;have TL:=qoz x 1 1 e w3;rw[HXV.out]at TL;refine TL.mono ?_;rintro r w4⟨rfl,hb4⟩;obtain⟨y,hy⟩:∃y,y=qca x 1 1 e:=⟨_,rfl⟩;rw[<-hy];have HYV:=hid (show y.v=.agg #[.int .i64 y.cls,.int .i64 y.kind,.int .u64 (y.id:Int),.int .u64 (y.ver:Int),.int .u64 (y.ep:Int),.string y.key,.string y.val]from rfl);rw[HYV.out];have hys:y.key.size<=1000000/\y.val.size<=1000000:=by
      rw[hy,qca];have:=HXS.out;split
      · exact this
      · split
        · exact⟨Nat.zero_le _,this.2⟩
        · exact⟨Nat.zero_le _,Nat.zero_le _⟩
     have HY:=hid hy;have HYS:=hid hys;have R0:=qac hb4 hl0 HR0.out;have hl0:=qa0 R0;have HR0:=hid R0;have HB4:=hid (HB3.out.trans (hb4.mono HB3.out.size));clear hb4 TL R0 HB3 hy hys c0 c1 c2 c3 c4 c5 c6 c7 c8 c9 cA;go_upto_region 8 with fail;generalize hw5:World.alloc _ _=w5;have R1:w5.heap[w4.heap.size]? =some (.cells y.enc.toArray 203 (0,0)):=by rw[<-hw5];exact(qa2 _ _ _).trans (if_pos rfl)
     have bk5:Below w4.heap.size w4 w5:=by rw[<-hw5];exact(Below.refl _ _).alloc (Nat.le_refl _) _
     obtain⟨yb,hyb⟩:∃yb,yb=w4.heap.size:=⟨_,rfl⟩;have R0:=qac bk5 hl0 HR0.out;have HB5:=hid (HB4.out.trans (bk5.mono HB4.out.size));rw[<-hyb]at R1 ⊢;obtain⟨y0,y1,y2,y3,y4,y5,y6⟩:=BlkC.cells R1;have hl1:=qa0 R1;have hl0:=qa0 R0;have HR0:=hid R0;have HR1:=hid R1;clear hw5 bk5 hyb R0 R1 HB4;go_wp2_with fail;have TB:=qkl y w5 HYS.out.1 HYS.out.2;rw[HYV.out]at TB;refine TB.mono ?_;rintro r w6⟨rfl,hb6⟩;have R0:=qac hb6 hl0 HR0.out;have R1:=qac hb6 hl1 HR1.out;obtain⟨c0,c1,c2,c3,c4,c5,c6,c7,c8,c9,cA⟩:=ChgC.cells R0;obtain⟨y0,y1,y2,y3,y4,y5,y6⟩:=BlkC.cells R1;have hl1:=qa0 R1;have hl0:=qa0 R0;have HB6:=hid (HB5.out.trans (hb6.mono HB5.out.size));clear hb6 R0 R1 HR0 HR1 HB5 TB;cases hmay:mayB y with
     |false =>
      have HM:=hid hmay;clear hmay;go_wp2_with fail;go_ret;exact⟨3,rfl,HB6.out,(λh0=>by cases h0),λ_=>⟨k,hlt,λhf=>by
       have:=(hf (by rw[<-HX.out];exact HND.out)).1
       rw[<-HX.out,<-HY.out,HM.out]at this
       cases this⟩⟩
     |true =>
      have HM:=hid hmay;clear hmay;by_cases hcl:y.cls=x.cls;rotate_left
      · have hcb:(y.cls != x.cls)=true:=by rw[bne_iff_ne];exact hcl
        have HCL:=hid hcl;clear hcl;go_wp2_with fail;go_ret;exact⟨3,rfl,HB6.out,(λh0=>by cases h0),λ_=>⟨k,hlt,λhf=>by
         have:=(hf (by rw[<-HX.out];exact HND.out)).2
         rw[<-HX.out,<-HY.out]at this
         exact HCL.out this⟩⟩
      have hcb:(y.cls != x.cls)=false:=by rw[bne_eq_false_iff_eq];exact hcl
      have HCL:=hid hcl;have HFA:Hid (∀i (h:i<l.length),i<k+1->qee e l[i]):=hid λi hi h2=>(by
       by_cases hik:i=k
       · subst hik
         intro _
         rw[<-HX.out,<-HY.out]
         exact⟨HM.out,HCL.out⟩
       · exact HNO.out i hi (by omega))
      obtain⟨v1,hv1⟩:∃v1,v1=v+1:=⟨_,rfl⟩;obtain⟨d1,hd1⟩:∃d1,d1=d+1:=⟨_,rfl⟩;have hw1:IntKind.u64.wrap ((v:Int)+1)=(v1:Int):=by rw[IntKind.wrap_u64];omega
      have hw2:IntKind.u64.wrap ((d:Int)+1)=(d1:Int):=by rw[IntKind.wrap_u64];omega
      have g1:¬(2305843009213693952:Int)<(v1:Int):=by omega
      have g2:¬(2305843009213693952:Int)<(d1:Int):=by omega
      have g3:¬(2305843009213693952:Int)<(d:Int):=by omega
      have HG1:=hid g1;have HG2:=hid g2;have HG3:=hid g3;have HV1:=hid (show v1<=v0+(k+1)by omega);have HD1:=hid (show d1<=d0+(k+1)by omega);have HD0:=hid (show d<=d0+(k+1)by omega);clear hcl hv1 hd1;cases h4:(x.kind==4)with
      |true =>
       go_wp2_with fail;exact⟨⟨k+1,d1,v1,by omega,HD1.out,HV1.out,rfl,rfl,by rw[decide_eq_false (Int.not_lt.2 HG1.out),decide_eq_false (Int.not_lt.2 HG2.out)];rfl,by go_num,HFA.out,HB6.out⟩,by simp[intOf];omega⟩
      |false =>
       cases h2:(x.kind==2)with
       |false =>
        go_wp2_with fail;exact⟨⟨k+1,d,v1,by omega,HD0.out,HV1.out,rfl,rfl,by rw[decide_eq_false (Int.not_lt.2 HG1.out),decide_eq_false (Int.not_lt.2 HG3.out)];rfl,by go_num,HFA.out,HB6.out⟩,by simp[intOf];omega⟩
       |true =>
        cases hh:x.had with
        |true =>
         rw[hh]at c3;go_wp2_with fail;exact⟨⟨k+1,d,v1,by omega,HD0.out,HV1.out,rfl,rfl,by rw[decide_eq_false (Int.not_lt.2 HG1.out),decide_eq_false (Int.not_lt.2 HG3.out)];rfl,by go_num,HFA.out,HB6.out⟩,by simp[intOf];omega⟩
        |false =>
         rw[hh]at c3;go_wp2_with fail;exact⟨⟨k+1,d1,v1,by omega,HD1.out,HV1.out,rfl,rfl,by rw[decide_eq_false (Int.not_lt.2 HG1.out),decide_eq_false (Int.not_lt.2 HG2.out)];rfl,by go_num,HFA.out,HB6.out⟩,by simp[intOf];omega⟩
  · obtain rfl:k=l.length:=by omega
    clear hbr;go_wp2_with fail;go_ret;exact⟨0,rfl,HBR.out,λ_ i hi=>HNO.out i hi hi,λh0=>absurd rfl h0⟩
end
end
section
open Go.RowKit Go.MapKept
def txtE(s:ByteArray):List Value:=[.string s]
theorem qoh(s:ByteArray):(txtE s).length=1:=rfl
def qdb(s:ByteArray):List UInt8:=s.data.toList
def qce(l:List UInt8):ByteArray:=⟨l.toArray⟩
theorem qfu(s:ByteArray):qce (qdb s)=s:=by simp[qce,qdb]
def R0:Value->Option (DataW Unit×List MemPlace):=λ_=>some (.nil,[])
section
variable {es:Array MapEntry}{clock r:Nat}{L:List qa3}{w:World}
theorem MapL.owns(h:MapL w r L)(hs:∀x∈L,x.key.size<=1000000)(hl:L.length<=1000000):∃D:DataW Unit,w.ownsMap prog 9 R0 r L.length D/\Maps.size D=L.length/\(strKeys D).Perm (L.map λx=>qdb x.key):=by
 obtain⟨es,clock,hb,hm⟩:=h;have hst:prog.underlying 9=some .string:=underlying9;have hkey:∀s:ByteArray,s.size<=1000000->keyOf prog 9 (.string s)=some (.string s.data.toList):=λs h=>WideMaps.keyOf_string_mk hst (by unfold maxLen;omega)
 have hrd:∀e∈es.toList,∃x∈L,e.key=.string x.key/\WideElems.rd prog 9 R0 e=some (.string (qdb x.key),.nil):=by
  intro e he;obtain⟨j,hj,rfl⟩:=List.getElem_of_mem he;have hjl:j<L.length:=by rw[<-hm.len];simpa using hj
  obtain⟨e',h1,h2,_⟩:=hm.row j hjl;have:es.toList[j]=e':=by
   have:=(Array.getElem?_eq_some_iff.1 h1).2;simpa using this
  rw[this];refine⟨L[j],List.getElem_mem hjl,h2,?_⟩;unfold WideElems.rd;rw[h2,hkey _ (hs _ (List.getElem_mem hjl))];rfl
 refine⟨_,⟨es,clock,hb,⟨by rw[hm.len];unfold maxLen;omega,hm.st,λe he=>?_⟩,by rw[hm.len];exact Nat.le_refl _,rfl⟩,?_,?_⟩
 · obtain⟨x,_,_,h2⟩:=hrd e he
   exact⟨_,h2⟩
 · rw[Maps.size_eq,(WideShapes.sorted_perm _).length_eq,List.length_map,Array.length_toList,hm.len]
 · refine((WideShapes.sorted_perm _).map λp=>strOf p.1).trans ?_
   rw[List.map_map];have:es.toList.map ((λp:Lit×DataW Unit=>strOf p.1) ∘ WideElems.rg prog 9 R0)=L.map λx=>qdb x.key:=by
    apply List.ext_getElem?;intro j;rw[List.getElem?_map,List.getElem?_map,Array.getElem?_toList];by_cases hj:j<L.length
    · obtain⟨e,h1,h2,_⟩:=hm.row j hj
      rw[h1,List.getElem?_eq_getElem hj];simp only[Option.map_some,Function.comp];unfold WideElems.rg WideElems.rd;rw[h2,hkey _ (hs _ (List.getElem_mem hj))];rfl
    · rw[List.getElem?_eq_none (by omega),Array.getElem?_eq_none (by rw[hm.len];omega)]
      rfl
   rw[this]
end
theorem qB4:∀x y:List UInt8,Op.bytesLess x y=decide (x<y)
 |_,[]=>by simp[Op.bytesLess]
 | [],_::_=>by simp[Op.bytesLess]
 |a::x,b::y=>by
  simp only[Op.bytesLess,qB4 x y,List.cons_lt_cons_iff]
  by_cases h1:a<b <;> by_cases h2:a=b <;> by_cases h3:x<y <;> simp[h1,h2,h3]
theorem qw9{a b:List UInt8}(h:a<=b)(hne:a≠b):kl (qce a) (qce b)=true:=by
 unfold kl;rw[Lib.toList_data,Lib.toList_data,qB4];simp only[qce];rcases List.le_iff_lt_or_eq.1 h with h|h
 · exact decide_eq_true h
 · exact absurd h hne
theorem qp7:∀S:List (List UInt8),S.map encStr=(S.map qce).flatMap txtE
 | []=>rfl
 |a::S=>by rw[List.map_cons,qp7 S];rfl
theorem qwa(r:Nat)(W:World):Calls prog 298 #[.map (some r)] W λe w'=>e=.returned (.func (.func 335) #[] #[.pointer (some ⟨W.heap.size,0,none⟩)])/\w'=W.alloc (.cells #[.map (some r)] 195):=callsIn_wide.1 (qss (some r) W)
def qub(L:List qa3)(K:List ByteArray):Prop:=K.Perm (L.map (·.key))/\K.Pairwise λa b=>kl a b=true
def qul(L:List qa3)(lo:Nat)(w:World)(e:Ending)(w':World):Prop:=∃A c K,e=.returned (.slice A K.length c)/\Own txtE 9 1 w' lo A c K/\Below lo w w'/\qub L K
theorem qpx(r:Nat)(L:List qa3)(w:World)(h:MapL w r L)(hs:∀x∈L,x.key.size<=1000000)(hl:L.length<=1000000):Calls prog 297 #[.func (.func 335) #[] #[.pointer (some ⟨w.heap.size,0,none⟩)]] (w.alloc (.cells #[.map (some r)] 195)) (qul L (w.heap.size+1) (w.alloc (.cells #[.map (some r)] 195))):=by
 have hnd:=h.nodup;obtain⟨D,hown,hsz,hperm⟩:=h.owns hs hl;refine(callsIn_wide.1 (qmz r L.length D R0 w hown (by rw[hsz];unfold maxLen;omega) (by rw[hsz];omega))).mono ?_;rintro e w'⟨v,ss,rfl,hp,hrow,_,hb⟩;simp only[World.size_alloc]at hrow hb;obtain⟨S,hS⟩:∃S,S=ss.mergeSort (λx y=>decide (x<=y)):=⟨_,rfl⟩;have hSp:S.Perm ss:=by rw[hS];exact List.mergeSort_perm _ _
 have hSL:S.Perm (L.map λx=>qdb x.key):=(hSp.trans hp).trans hperm;have hSw:S.Pairwise λa b=>a<=b:=by
  have:=List.pairwise_mergeSort (le:=λx y:List UInt8=>decide (x<=y)) (λa b c h1 h2=>by simp only[decide_eq_true_eq]at *;exact List.le_trans h1 h2) (λa b=>by simp only[Bool.or_eq_true,decide_eq_true_eq];exact List.le_total a b) ss;rw[hS];exact this.imp λh=>by simpa using h
 have hSn:S.Nodup:=by
  refine hSL.nodup_iff.2 ?_;have h2:((L.map (·.key)).map qdb).Nodup:=by
   rw[List.Nodup,List.pairwise_map];exact List.Pairwise.imp (λ{a b} hab he=>hab (by rw[<-qfu a,<-qfu b,he])) hnd
  rwa [List.map_map]at h2
 rw[<-hS]at hrow;have hlen:S.length=ss.length:=hSp.length_eq;have hcells:=qp7 S;rw[hcells]at hrow;obtain⟨A,c,rfl,ho⟩:=Own.of_row (l:=S.map qce) qoh hrow (by rw[List.length_map,hlen]);refine⟨A,c,S.map qce,rfl,ho,hb,?_,?_⟩
 · have:=hSL.map qce
   rw[List.map_map]at this;have e:(L.map (qce ∘ λx=>qdb x.key))=L.map (·.key):=List.map_congr_left λx _=>qfu x.key
   rwa [e]at this
 · rw[List.pairwise_map]
   exact hSw.imp₂ (λa b h1 h2=>qw9 h1 h2) hSn
end
section
open Go.RowKit
def qgo(pos:ByteArray)(past:Bool)(k:ByteArray):Bool:= !past||kl pos k
def qes(L:List qa3)(pos:ByteArray)(past:Bool):Option qa3->Prop
 |some x=>x∈L/\qgo pos past x.key=true/\∀y∈L,qgo pos past y.key=true->y=x\/kl x.key y.key=true
 |none=>∀y∈L,qgo pos past y.key=false
theorem qy8(k p:ByteArray):(!(Op.bytesLess k.toList p.toList||k.toList==p.toList))=kl p k:=by
 show(!(kl k p||k.toList==p.toList))=kl p k
 cases h:kl p k with
 |true =>
  have h1:=qei h;have h2:(k.toList==p.toList)=false:=by
   rw[beq_eq_false_iff_ne];intro e;have:=qbu e;subst this;rw[qdh]at h;cases h
  rw[h1,h2];rfl
 |false =>
  cases h1:kl k p with
  |true=>rfl
  |false =>
   have:=qp0 h1 h;subst this;simp
theorem qne{L:List qa3}(hn:(L.map (·.key)).Nodup){x:qa3}(hx:x∈L):qd0 L x.key=some x:=by
 obtain⟨j,hj,rfl⟩:=List.getElem_of_mem hx;refine List.find?_eq_some_iff_getElem.2 ⟨by simp,j,hj,rfl,λi hi=>?_⟩;have:=List.pairwise_iff_getElem.1 hn i j (by simp;omega) (by simpa using hj) hi;simpa using this
theorem qwb{L:List qa3}(hn:(L.map (·.key)).Nodup){x y:qa3}(hx:x∈L)(hy:y∈L)(e:x.key=y.key):x=y:=by
 have h1:=qne hn hx;have h2:=qne hn hy;rw[e]at h1;exact Option.some.inj (h1.symm.trans h2)
theorem qyw{L:List qa3}{K:List ByteArray}{pos:ByteArray}{past:Bool}(hn:(L.map (·.key)).Nodup)(hK:qub L K){i:Nat}(hi:i<K.length)(hc:qgo pos past K[i]=true)(hb:∀j (h:j<K.length),j<i->qgo pos past K[j]=false):∃x,qd0 L K[i]=some x/\qes L pos past (some x):=by
 have hm:K[i]∈L.map (·.key):=(hK.1.mem_iff).1 (List.getElem_mem hi);obtain⟨x,hx,hxe⟩:=List.mem_map.1 hm;refine⟨x,by rw[<-hxe];exact qne hn hx,hx,by rw[hxe];exact hc,λy hy hcy=>?_⟩;have hym:y.key∈K:=(hK.1.mem_iff).2 (List.mem_map.2 ⟨y,hy,rfl⟩);obtain⟨j,hj,hje⟩:=List.getElem_of_mem hym;rcases Nat.lt_trichotomy j i with h|h|h
 · have:=hb j hj h
   rw[hje,hcy]at this;cases this
 · subst h
   exact .inl (qwb hn hy hx (by rw[<-hje,hxe]))
 · right
   rw[hxe,<-hje];exact List.pairwise_iff_getElem.1 hK.2 i j hi hj h
theorem qs9{L:List qa3}{K:List ByteArray}{pos:ByteArray}{past:Bool}(hK:qub L K)(hb:∀j (h:j<K.length),qgo pos past K[j]=false):qes L pos past none:=λy hy=>by
 obtain⟨j,hj,hje⟩:=List.getElem_of_mem ((hK.1.mem_iff).2 (List.mem_map.2 ⟨y,hy,rfl⟩))
 rw[<-hje]
 exact hb j hj
theorem Arr.txt1{w:World}{B:Nat}{A:Option Addr}{l:List ByteArray}(h:Arr txtE 1 w B A l){i:Nat}(hi:i<l.length):∃b off,A=some ⟨b,off,none⟩/\b<B/\w.cell? ⟨b,off+i,none⟩=some (.string l[i]):=by
 rcases h with h|⟨b,off,hA,hB,hc⟩
 · subst h;simp at hi
 · refine⟨b,off,hA,hB,?_⟩
   have:=hc i hi 0 _ rfl;simpa using this
def quh(L:List qa3)(pos:ByteArray)(past:Bool)(w:World)(e:Ending)(w':World):Prop:=∃r:Option qa3,e=.returned (.tuple #[(r.getD qak).val,.bool r.isSome])/\qes L pos past r/\Below w.heap.size w w'
section
variable {F:Nat->Prop}{w:World}{tb:Nat}{mb:Nat->Nat}{B:Nat->List qa3}
theorem qh5(h:qbk F w tb mb B)(k:Nat)(hk:k<8)(pos:ByteArray)(past:Bool)(hl:(B k).length<=1000000):Calls prog 239 #[.pointer (some ⟨tb,0,none⟩),.int .i64 (k:Int),.string pos,.bool past] w (quh (B k) pos past w):=by
 have H:=hid h;have hk0:(0:Int)<=(k:Int):=by omega
 have hk8:(k:Int)<8:=by omega
 have hkn0:¬(k:Int)<0:=by omega
 have hkn8:¬(8:Int)<=(k:Int):=by omega
 have HKL:=hid hl;have HBK:=hid (h.bkt k hk);clear h hl;go_enter func239,ntmps239;go_upto_region 1 with fail;generalize hw1:World.alloc w _=w1;have b1:Below w.heap.size w w1:=by rw[<-hw1];exact(Below.refl _ _).alloc (Nat.le_refl _) _
 have R1:w1.heap[w.heap.size]? =some (.cells qak.enc.toArray 85 (0,0)):=by rw[<-hw1];exact(qa2 _ _ _).trans (if_pos rfl)
 have HR1:=hid R1;have HB1:=hid b1;have H1:=hid (H.out.below b1);have hl1:=qa0 R1;have ht1:=H1.out.lt;have tc:=H1.out.cell hk;clear hw1 R1 b1;go_wp2_with fail;refine(qwa (mb k) w1).mono ?_;rintro e w2⟨rfl,rfl⟩;go_wp2_with fail;refine(qpx (mb k) (B k) w1 (H1.out.map k hk) (λx hx=>(HBK.out x hx).2) HKL.out).mono ?_;rintro e w3⟨A,c,K,rfl,hown,hb,hKO⟩;try simp only[World.size_alloc]at hb
 have b13:Below w1.heap.size w1 w3:=((Below.refl _ _).alloc (Nat.le_refl _) _).trans (hb.mono (Nat.le_succ _));have H3:=hid (H1.out.below b13);have HB3:=hid (HB1.out.trans (b13.mono HB1.out.size));have HR3:=hid ((b13.block _ hl1).trans HR1.out);have HO:=hid hown;have HKO:=hid hKO;have hKl:K.length<=1000000:=by rw[hKO.1.length_eq,List.length_map];exact HKL.out
 have hl3:=qa0 HR3.out;clear hown hb hKO b13 tc;go_wp2_with fail;go_loopw [12,34] (λ_ v34 wr=>∃i:Nat,i<=K.length/\v34=.int .i64 i/\wr=w3/\Hid (∀j (h:j<K.length),j<i->qgo pos past K[j]=false)) (λ_ v34 _=>K.length-(intOf v34).toNat)
 case atStart=>exact⟨0,by omega,rfl,rfl,hid λj _ h=>absurd h (by omega)⟩
 case round =>
  obtain⟨i,hi,rfl,rfl,HC⟩:=hrel;by_cases hlt:i<K.length
  · have hlti:(i:Int)<(K.length:Int):=by omega
    have hii:(0:Int)<=(i:Int):=by omega
    obtain⟨b,off,rfl,hB,c0⟩:=(HO.out.arr qoh).txt1 hlt;cases hc:qgo pos past K[i]with
    |true =>
     have HX:=hid hc;obtain⟨x,hx1,hx2⟩:=qyw (H3.out.map k hk).nodup HKO.out hlt hc HC.out;have lk:=qw6 (H3.out.map k hk) K[i];rw[hx1]at lk;have HNX:=hid hx2;have HXV:=hid (show x.val=.agg #[.string x.key,.int .u64 (x.id:Int),.int .u64 (x.ver:Int),.int .i64 x.line,.int .i64 x.cls]from rfl);simp only[Option.getD_some]at lk;rw[HXV.out]at lk;have f0:=frozen_of_row wr _ 0 _ _ HR3.out;have f1:=frozen_of_row wr _ 1 _ _ HR3.out;have f2:=frozen_of_row wr _ 2 _ _ HR3.out;have f3:=frozen_of_row wr _ 3 _ _ HR3.out;have f4:=frozen_of_row wr _ 4 _ _ HR3.out;have q0:=cell_of_row wr _ 0 _ _ _ HR3.out;have q1:=cell_of_row wr _ 1 _ _ _ HR3.out;have q2:=cell_of_row wr _ 2 _ _ _ HR3.out;have q3:=cell_of_row wr _ 3 _ _ _ HR3.out;have q4:=cell_of_row wr _ 4 _ _ _ HR3.out;simp only[qa3.enc,List.getElem?_toArray,List.getElem?_cons_zero,List.getElem?_cons_succ]at q0 q1 q2 q3 q4;clear hc hx1 hx2;cases past with
     |false =>
      go_wp2_with fail;refine bodyPost_ret (v:=.tuple #[x.val,.bool true]) (qdq results239 _ _ w.heap.size x _ (by simp) (by simp) (box5 HR3.out)) rfl ⟨some x,rfl,HNX.out,?_⟩;exact qae (Nat.le_refl _) x.enc 0 wr HB3.out
     |true =>
      have hg:kl pos K[i]=true:=by have:=HX.out;simpa[qgo]using this
      have hgg:=qy8 K[i] pos;rw[hg]at hgg;have hg2:(Op.bytesLess K[i].toList pos.toList||K[i].toList==pos.toList)=false:=by simpa using hgg
      clear hg hgg;go_wp2_with fail;refine bodyPost_ret (v:=.tuple #[x.val,.bool true]) (qdq results239 _ _ w.heap.size x _ (by simp) (by simp) (box5 HR3.out)) rfl ⟨some x,rfl,HNX.out,?_⟩;exact qae (Nat.le_refl _) x.enc 0 wr HB3.out
    |false =>
     have HX:=hid hc;clear hc;cases past with
     |false=>have:=HX.out;simp[qgo]at this
     |true =>
      have hg:kl pos K[i]=false:=by have:=HX.out;simpa[qgo]using this
      have hgg:=qy8 K[i] pos;rw[hg]at hgg;have hg2:(Op.bytesLess K[i].toList pos.toList||K[i].toList==pos.toList)=true:=by
       revert hgg;cases(Op.bytesLess K[i].toList pos.toList||K[i].toList==pos.toList) <;> simp
      clear hg hgg;have HN1:Hid (∀j (h:j<K.length),j<i+1->qgo pos true K[j]=false):=hid λj hj hji=>by
       rcases(by omega:j<i\/j=i)with h|rfl
       · exact HC.out j hj h
       · exact HX.out
      have hi1:Hid (i+1<=K.length):=hid hlt;have hmes:Hid (K.length-(i+1)<K.length-i):=hid (by omega);go_wp2_with fail;refine⟨⟨i+1,hi1.out,by go_num,by first|rfl|trivial,HN1⟩,?_⟩;have:=hmes.out;simp[intOf];omega
  · obtain rfl:i=K.length:=by omega
    have HR3':Hid (wr.heap[w.heap.size]? =some (.cells #[.string ByteArray.empty,.int .u64 0,.int .u64 0,.int .i64 0,.int .i64 0] 85 (0,0))):=hid HR3.out;have f0:=frozen_of_row wr _ 0 _ _ HR3'.out;have f1:=frozen_of_row wr _ 1 _ _ HR3'.out;have f2:=frozen_of_row wr _ 2 _ _ HR3'.out;have f3:=frozen_of_row wr _ 3 _ _ HR3'.out;have f4:=frozen_of_row wr _ 4 _ _ HR3'.out;have q0:=cell_of_row wr _ 0 _ _ _ HR3'.out;have q1:=cell_of_row wr _ 1 _ _ _ HR3'.out;have q2:=cell_of_row wr _ 2 _ _ _ HR3'.out;have q3:=cell_of_row wr _ 3 _ _ _ HR3'.out;have q4:=cell_of_row wr _ 4 _ _ _ HR3'.out;have HFIN:=hid (qB3 (a':=.string ByteArray.empty) (c':=.int .u64 0) (d':=.int .u64 0) (e':=.int .i64 0) (f':=.int .i64 0) HR3'.out);go_wp2_with fail;refine bodyPost_ret (v:=.tuple #[qak.val,.bool false]) (qdq results239 _ _ w.heap.size qak _ (by simp) (by simp) HFIN.out) rfl ⟨none,rfl,qs9 HKO.out λj hj=>HC.out j hj hj,?_⟩;exact((((HB3.out.setCell (p:=⟨w.heap.size,0,none⟩) (Nat.le_refl _) _).setCell (p:=⟨w.heap.size,1,none⟩) (Nat.le_refl _) _).setCell (p:=⟨w.heap.size,2,none⟩) (Nat.le_refl _) _).setCell (p:=⟨w.heap.size,3,none⟩) (Nat.le_refl _) _).setCell (p:=⟨w.heap.size,4,none⟩) (Nat.le_refl _) _
end
end
section
open Go.RowKit
def qft:List Value:=[.func (.func 181) #[] #[],.func (.func 182) #[] #[],.func (.func 183) #[] #[],.func (.func 184) #[] #[],.func (.func 185) #[] #[],.func (.func 186) #[] #[],.func (.func 187) #[] #[]]
theorem qfs:(prog.info? 283).map (·.size)=some 7:=by kernel_rfl
theorem qla:∀v∈qft,v.oneCell'=true:=by
 intro v hv;simp only[qft,List.mem_cons,List.not_mem_nil,or_false]at hv;rcases hv with rfl|rfl|rfl|rfl|rfl|rfl|rfl <;> rfl
theorem ql8(w:World):Calls prog 140 #[] w λe w'=>e=.returned (.agg qft.toArray)/\Below w.heap.size w w':=by
 go_enter func140,ntmps140;go_upto_region 1 with fail;generalize hw1:World.alloc _ _=w1;obtain⟨cur,R1,hcur⟩:∃cur,w1.heap[w.heap.size]? =some (.cells cur 283 (0,0))/\cur.size=7:=⟨_,by rw[<-hw1];exact(qa2 _ _ _).trans (if_pos rfl),rfl⟩;have HB1:Hid (Below w.heap.size w w1):=hid (by rw[<-hw1];exact(Below.refl _ _).alloc (Nat.le_refl _) _);have TH:=hid (qai R1 hcur);have hl1:=qa0 R1;have HAL:=hid (all_oneCell_toArray qla);obtain⟨w2,hw2⟩:∃w2,w2=w1.setCells w.heap.size 0 qft.toArray.toList:=⟨_,rfl⟩;have HW2:=hid hw2;have HRG:Hid (w2.rangeAt w.heap.size 0 qft):=hid (by rw[hw2];exact World.rangeAt_setCells_same w1 w.heap.size 0 qft TH.out);have HB2:Hid (Below w.heap.size w w2):=hid (by rw[hw2];exact qae (Nat.le_refl _) _ _ _ HB1.out);clear hw1 hw2 R1 hcur;go_wp2_with(refine wpList_store_mid rfl 283 (.tmp 0) (.tmp 1) rfl w.heap.size 0 qft.toArray (by first|rfl|simp[Act.eval]) (by first|rfl|simp[Act.eval,qft]) TH.out qfs HAL.out ?_;rw[<-HW2.out]);refine bodyPost_ret (v:=.agg qft.toArray) ?_ rfl ⟨rfl,HB2.out⟩;exact qah results140 _ _ w.heap.size qft _ rfl HRG.out underlying283 rfl qfs
end
end Go.Proofs.YtecikkjbnkhhkaaGreat
