/- A part of the walk. -/
import Derived.Test.YtecikkjbnkhhkaaGreatP08
import Derived.Test.YtecikkjbnkhhkaaGreatP11
namespace Go.Proofs.YtecikkjbnkhhkaaGreat
open _root_.Go.Proofs.Tryz
set_option maxHeartbeats 1000000
set_option maxRecDepth 100000
section
open Go.RowKit
theorem qib{P:Program}{f:FuncId}{fn:Func}(hf:P.funcs[f]? =some fn)(hname:(fn.name== "runtime.NumGoroutine")=false)(hb:fn.body.isNone=true)(hn:Extern.findNext fn=none)(k:IntKind)
 (he:Extern.find fn=some (Extern.Atomic.swapT (.int k))) {a:Addr} {x y:Int} {w:World} (hc:w.cell? a=some (.int k x)) (hz:w.frozen? a=false):
 (callFunc f #[.pointer (some a),.int k y]).run P w=.ok (.value (.int k x)) (w.setCell a (.int k y)):=by
 rw[run_callFunc_extern hf hname hb hn he];change (Sem.run P (do
  let a' <-asAddr (.pointer (some a))
  let old <-Extern.Atomic.read (.int k) a'
  store a' (.int k y) .atomic
  pure old) w).andThen _=_
 simp[Extern.Atomic.read,asAddr,hc,hz,run_store P w a (.int k y) .atomic rfl,Result.andThen]
theorem qrp(b o:Nat)(c d:Int)(w:World)(h:w.cell? ⟨b,o,none⟩=some (.int .u64 c))(hf:w.frozen? ⟨b,o,none⟩=false)(_hb:b<w.heap.size):Calls prog 347 #[.pointer (some ⟨b,o,none⟩),.int .u64 d] w λe w'=>e=.returned (.int .u64 c)/\w'=w.setCell ⟨b,o,none⟩ (.int .u64 d):=by
 have hs:=qib (P:=prog) func367 (by kernel_rfl) (by kernel_rfl) (by kernel_rfl) .u64 (by kernel_rfl) (y:=d) h hf;go_enter func347,ntmps347;go_wp2_with fail;go_ret;exact⟨rfl,rfl⟩
theorem qwp(w:World)(lo p rc now:Nat)(H:List Nat)(h:RdAt w lo p rc now H)(t:Nat)(ht:t<H.length)(h0:¬H[t]=0):Calls prog 296 #[.pointer (some ⟨p,0,none⟩),.int .i64 (t:Int)] w λe w'=>e=.returned (.tuple #[.int .u64 0,.int .i64 7])/\w'=w:=by
 obtain⟨c0,f0,l0⟩:=h.cell ht;have T1:=hid (qfl w lo p rc now H h t ht);have T2:=hid (qjv w lo p rc now H h);have T3:=hid (qtq rc t (H[t]:Int) 0 (now:Int) (by omega) w c0 f0 l0);clear h c0 f0 h0;go_enter func296,ntmps296;go_wp2_with fail;refine T1.out.mono ?_;rintro e w1⟨rfl,rfl⟩;go_wp2_with fail;refine T2.out.mono ?_;rintro e w2⟨rfl,rfl⟩;go_wp2_with fail;refine T3.out.mono ?_;rintro e w3⟨rfl,rfl⟩;go_wp2_with fail;go_ret2;exact⟨rfl,rfl⟩
theorem qsn(w:World)(lo p rc now:Nat)(H:List Nat)(h:RdAt w lo p rc now H)(t:Nat)(ht:t<H.length):Calls prog 310 #[.pointer (some ⟨p,0,none⟩),.int .i64 (t:Int)] w λe w'=>e=.returned (.int .i64 (if H[t]=0 then 12 else 0))/\w'=w.setCell ⟨rc,t,none⟩ (.int .u64 0):=by
 obtain⟨c0,f0,l0⟩:=h.cell ht;have T1:=hid (qfl w lo p rc now H h t ht);have T3:=hid (qrp rc t (H[t]:Int) 0 w c0 f0 l0);clear h c0 f0;by_cases h0:H[t]=0
 · rw[if_pos h0]
   rw[h0]at T3;go_enter func310,ntmps310;go_wp2_with fail;refine T1.out.mono ?_;rintro e w1⟨rfl,rfl⟩;go_wp2_with fail;refine T3.out.mono ?_;rintro e w3⟨rfl,rfl⟩;go_wp2_with fail;go_ret;exact⟨rfl,rfl⟩
 · rw[if_neg h0]
   generalize H[t]=v at *;have hv:((v:Int)==0)=false:=by rw[beq_eq_false_iff_ne];omega
   go_enter func310,ntmps310;go_wp2_with fail;refine T1.out.mono ?_;rintro e w1⟨rfl,rfl⟩;go_wp2_with fail;refine T3.out.mono ?_;rintro e w3⟨rfl,rfl⟩;go_wp2_with fail;go_ret;exact⟨rfl,rfl⟩
theorem qv8:(prog.info? 125).map (λi=>(i.zero.map Value.cells,i.size,i.bytes))=some (some #[.int .u64 0],1,8):=by kernel_rfl
theorem qs2(n:Nat)(w:World)(h1:1<=n)(h2:n<=4):Calls prog 68 #[.int .i64 (n:Int)] w λe w'=>e=.returned (.tuple #[.pointer (some ⟨w.heap.size+1,0,none⟩),.int .i64 0])/\RdAt w' w.heap.size (w.heap.size+1) w.heap.size 1 (List.replicate n 0)/\Below w.heap.size w w':=by
 have g1:¬(n:Int)<1:=by omega
 have g2:¬(4:Int)<(n:Int):=by omega
 obtain⟨i,hi,hz,hs,hby⟩:∃i,prog.info? 125=some i/\i.zero.map Value.cells=some #[.int .u64 0]/\i.size=1/\i.bytes=8:=by
  have:=qv8;cases hq:prog.info? 125 with
  |none=>rw[hq]at this;cases this
  |some i=>rw[hq]at this;simp at this;exact⟨i,rfl,by simpa using this⟩
 obtain⟨z,hz1,hz2⟩:∃z,i.zero=some z/\z.cells=#[.int .u64 0]:=by
  cases hq:i.zero with
  |none=>rw[hq]at hz;cases hz
  |some z=>rw[hq]at hz;simp at hz;exact⟨z,rfl,hz⟩
 have MK:=λW=>run_make (P:=prog) W 214 125 i z underlying214 hi hz1 .i64 .i64 (n:Int) (n:Int) (by omega) (Int.le_refl _) (by rw[hby];omega) (by omega)
 simp only[Int.toNat_natCast,hs,hz2,Nat.mul_one]at MK;clear hz1 hz2 hz hs hby hi;have hmc:madeCells #[Value.int .u64 0] n=((List.replicate n 0).map λn:Nat=>Value.int .u64 (n:Int)).toArray:=by
  apply Array.ext';rw[toList_madeCells_one,List.map_replicate];rfl
 have HMC:=hid hmc;clear hmc;go_enter func68,ntmps68;go_upto_region 4 with fail;generalize hw2:World.alloc (World.alloc w _) _=w2;have R0:w2.heap[w.heap.size]? =some (.cells ((List.replicate n 0).map λn:Nat=>Value.int .u64 (n:Int)).toArray 125 (0,0)):=by rw[<-hw2,<-HMC.out];exact(Below.heap_alloc _ _ _ (by simp)).trans ((qa2 _ _ _).trans (if_pos rfl))
 have B0:w2.heap[w.heap.size+1]? =some (.cells #[.int .u64 0,.slice (some ⟨w.heap.size,0,none⟩) n n] 216 (0,0)):=by rw[<-hw2];exact(qa2 _ _ _).trans (by rw[if_pos (by simp)])
 have b2:Below w.heap.size w w2:=by rw[<-hw2];exact((Below.refl _ _).alloc (Nat.le_refl _) _).alloc (by simp) _
 have HR0:=hid R0;have HB0:=hid B0;have HB2:=hid b2;have T:=hid (qfn (w.heap.size+1) 0 0 1 w2 (cell_of_row w2 _ 0 _ _ _ B0) (frozen_of_row w2 _ 0 _ _ B0) (qa0 B0));clear hw2 R0 B0 b2 MK;go_wp2_with fail;refine T.out.mono ?_;rintro e w3⟨rfl,rfl⟩;go_wp2_with fail;go_ret2;refine⟨rfl,⟨by rw[List.length_replicate];exact heap_setCell_same w2 _ 0 _ _ (.int .u64 1) HB0.out,(Below.heap_setCell _ _ _ _ (by simp)).trans HR0.out,⟨by omega,Nat.le_refl _,by omega⟩,by rw[List.length_replicate];omega,by omega⟩,HB2.out.setCell (by simp) _⟩
end
section
open Go.RowKit
def intE(x:Int):List Value:=[.int .i64 x]
theorem qp2(x:Int):(intE x).length=1:=rfl
theorem qwc(x:Int):∀u∈intE x,u.oneCell'=true:=by intro u hu;simp[intE]at hu;subst hu;rfl
theorem qzq{ops:Array Oper}{rest:List Oper}{o:Oper}{a:Act}{Q:Exit->Act->World->Prop}(w:World)(hgd:o.guard=none)(s x:Operand)
 (ho:o.op=.call {callee:=.builtin .append,args:=#[s,x],argTypes:=#[23,23]}) {lo:Nat} {A:Option Addr} {c:Nat} {l:List Int} (hs:a.eval s=.slice A l.length c) (own:Own intE 3 1 w lo A c l)
 {B:Nat} {A2:Option Addr} {m:List Int} (c2:Nat) (hx:a.eval x=.slice A2 m.length c2) (arr:Arr intE 1 w B A2 m) (hb:l.length+m.length<=1000000) (hlo:lo<=w.heap.size)
 (h:∀A' c' w',Own intE 3 1 w' lo A' c' (l++m)->w.grownBy w' (qa8 A c)->(A'=A/\c'=c\/∃g,A'=some ⟨g,0,none⟩/\w.heap.size<=g)->wpList prog ops Q rest (a.put o.dst (.slice A' (l.length+m.length) c')) w'):
 wpList prog ops Q (o::rest) a w:=by
 obtain⟨i0,hi,hz0,hz1,hz2⟩:=info_parts qk9;exact qar w hgd s x 23 ho i0 _ 8 underlying23 hi hz0 hz1 hz2 rfl (by decide) qp2 qwc hs own c2 hx arr (by unfold maxLen;omega) (by omega) hlo h
theorem qvr(w:World)(lo p oc now dur clo:Nat)(owed:List Int)(noted left:List Bool)(step:Value)(h:qbi w lo p oc now dur clo owed noted left step):Calls prog 303 #[.pointer (some ⟨p,0,none⟩)] w λe w'=>∃A c,e=.returned (.slice A owed.length c)/\Own intE 3 1 w' w.heap.size A c owed/\Below w.heap.size w w':=by
 have hp:=h.lt;have p3:=h.c3;have hoc:=qa0 h.rows;have hl:=h.len;have hA:Arr intE 1 w w.heap.size (some ⟨oc,0,none⟩) owed:=by
  refine .inr ⟨oc,0,rfl,hoc,λi hi j u hu=>?_⟩;have hj:j=0:=by
   have:=(List.getElem?_eq_some_iff.1 hu).1;rw[qp2]at this;omega
  subst hj;rw[Nat.mul_one,Nat.add_zero,Nat.zero_add,cell_of_row w oc i _ _ _ h.rows,List.getElem?_toArray,List.getElem?_map,List.getElem?_eq_getElem hi];simpa[intE]using hu
 have HA:=hid hA;clear h hA;go_enter func303,ntmps303;go_wp2_with(at_builtin;refine qzq (l:=[]) (m:=owed) _ rfl (.tmp 5) (.tmp 9) rfl rfl (Own.zero (lo:=w.heap.size)) owed.length rfl (HA.out.below ((Below.refl _ w).alloc (Nat.le_refl _) _)) (by simp;omega) (by simp) ?_;intro A' c' w' hown hgr hloc);go_ret;refine⟨A',c',by simp,by simpa using hown,((Below.refl _ w).alloc (Nat.le_refl _) _).grown hgr (by simp) (λk hk=>?_)⟩;simp[qa8]at hk
noncomputable def qhj:Value:=Tryz.zeroCells150.getD 520 undef
theorem qww(oc n:Nat):Tryz.zeroCells150.setIfInBounds 3 (.slice (some ⟨oc,0,none⟩) n n)=(clkC 0 0 0 oc n (List.replicate 258 false) (List.replicate 258 false) qhj).toArray:=by kernel_rfl
theorem qbi.setNow{w:World}{lo p oc now dur clo:Nat}{owed:List Int}{noted left:List Bool}{step:Value}(h:qbi w lo p oc now dur clo owed noted left step)(v:Nat):qbi (w.setCell ⟨p,0,none⟩ (.int .u64 (v:Int))) lo p oc v dur clo owed noted left step:=by
 refine⟨?_,(Below.heap_setCell _ _ _ _ (Ne.symm h.lo.2.2)).trans h.rows,h.lo,h.len⟩;rw[heap_setCell_same w p 0 _ _ (.int .u64 (v:Int)) h.box,List.setIfInBounds_toArray];rfl
theorem qbi.setDur{w:World}{lo p oc now dur clo:Nat}{owed:List Int}{noted left:List Bool}{step:Value}(h:qbi w lo p oc now dur clo owed noted left step)(v:Nat):qbi (w.setCell ⟨p,1,none⟩ (.int .u64 (v:Int))) lo p oc now v clo owed noted left step:=by
 refine⟨?_,(Below.heap_setCell _ _ _ _ (Ne.symm h.lo.2.2)).trans h.rows,h.lo,h.len⟩;rw[heap_setCell_same w p 1 _ _ (.int .u64 (v:Int)) h.box,List.setIfInBounds_toArray];rfl
theorem qqv(n:Nat)(w:World)(h1:1<=n)(h2:n<=4):Calls prog 70 #[.int .i64 (n:Int),.int .u64 0] w λe w'=>e=.returned (.tuple #[.pointer (some ⟨w.heap.size+1,0,none⟩),.int .i64 0])/\qbi w' w.heap.size (w.heap.size+1) w.heap.size 1 0 0 (List.replicate n 0) (List.replicate 258 false) (List.replicate 258 false) qhj/\Below w.heap.size w w':=by
 have g1:¬(n:Int)<1:=by omega
 have g2:¬(4:Int)<(n:Int):=by omega
 have MK:=λW=>run_make_row' (P:=prog) 23 3 (.int .i64 0) 8 underlying23 qk9 rfl .i64 .i64 n (by omega) (by omega) W
 go_enter func70,ntmps70;go_upto_region 6 with fail;have hmc:madeCells #[Value.int .i64 0] n=((List.replicate n (0:Int)).map (Value.int .i64)).toArray:=by
  apply Array.ext';rw[toList_madeCells_one,List.map_replicate]
 generalize hw2:World.alloc (World.alloc w _) _=w2;have HC:Hid (qbi w2 w.heap.size (w.heap.size+1) w.heap.size 0 0 0 (List.replicate n 0) (List.replicate 258 false) (List.replicate 258 false) qhj):=hid (by
  refine⟨?_,?_,⟨by omega,Nat.le_refl _,by omega⟩,by simp;omega⟩
  · rw[List.length_replicate,<-qww,<-hw2]
    exact(qa2 _ _ _).trans (by rw[if_pos (by simp)])
  · rw[<-hmc,<-hw2]
    exact(Below.heap_alloc _ _ _ (by simp)).trans ((qa2 _ _ _).trans (if_pos rfl)))
 have b2:Below w.heap.size w w2:=by rw[<-hw2];exact((Below.refl _ _).alloc (Nat.le_refl _) _).alloc (by simp) _
 have HB:=hid b2;have T1:=hid (qfn (w.heap.size+1) 1 0 0 w2 HC.out.c1 (frozen_of_row w2 _ 1 _ _ HC.out.box) HC.out.lt);clear hw2 b2 hmc MK;generalize Tryz.zeroCells150.setIfInBounds 3 _=zc;go_wp2_with fail;refine T1.out.mono ?_;rintro e w3⟨rfl,rfl⟩;have H3:=hid (HC.out.setDur 0);have T2:=hid (qfn (w.heap.size+1) 0 0 1 _ H3.out.c0 (frozen_of_row _ _ 0 _ _ H3.out.box) H3.out.lt);go_wp2_with fail;refine T2.out.mono ?_;rintro e w4⟨rfl,rfl⟩;go_wp2_with fail;go_ret2;exact⟨rfl,H3.out.setNow 1,(HB.out.setCell (by simp) _).setCell (by simp) _⟩
end
section
open Go.RowKit
abbrev Own8:=Nat->Nat
def mark(g:Own8)(w w':World)(i:Nat):Own8:=λb=>if w.heap.size<=b/\b<w'.heap.size then i else g b
theorem qat{g:Own8}{w w':World}{i b:Nat}(h:b<w.heap.size):mark g w w' i b=g b:=if_neg (by omega)
theorem qos{g:Own8}{w w':World}{i b:Nat}(h:w.heap.size<=b)(h':b<w'.heap.size):mark g w w' i b=i:=if_pos ⟨h,h'⟩
theorem qw0{g:Own8}{w w':World}{i b:Nat}(h:w'.heap.size<=b):mark g w w' i b=g b:=if_neg (by omega)
def Far(g:Own8)(w:World):Prop:=∀b,w.heap.size<=b->g b=0
theorem Far.mono{g:Own8}{w w':World}(h:Far g w)(hs:w.heap.size<=w'.heap.size):Far g w':=λb hb=>h b (by omega)
theorem Far.mark{g:Own8}{w w':World}(h:Far g w)(hs:w.heap.size<=w'.heap.size)(i:Nat):Far (mark g w w' i) w':=λb hb=>by rw[qw0 hb];exact h b (by omega)
theorem Only.rows{F:Nat->Prop}{w w':World}(ho:Only F w w'){A:Option Addr}{c:Nat}(hF:∀b,qa8 A c=some b->¬F b){α:Type}{enc:α->List Value}{e:TypeId}{k lo:Nat}{l:List α}(h:Own enc e k w lo A c l):Own enc e k w' lo A c l:=by
 refine h.keep2 ?_;by_cases hc:c=0
 · exact .inl hc
 · refine .inr λb off hA hlt=>ho.block b hlt (hF b ?_)
   rw[qa8,if_neg hc,hA];rfl
theorem qbb.only{F:Nat->Prop}{w w':World}{lo p dc:Nat}{D:List qab}(h:qbb w lo p dc D)(ho:Only F w w')(h1:¬F p)(h2:¬F dc):qbb w' lo p dc D:=by
 obtain⟨⟨c0,c1,c2,c3,c4,hb⟩,hr,hl,hn⟩:=h;refine⟨⟨c0,c1,c2,c3,c4,(ho.block p (qa0 hb) h1).trans hb⟩,ho.rows (λb hb'=>?_) hr,hl,hn⟩;rw[qa8]at hb';split at hb'
 · cases hb'
 · cases hb';exact h2
theorem qb8.only{F:Nat->Prop}{w w':World}{lo p sc:Nat}{S:List qan}(h:qb8 w lo p sc S)(ho:Only F w w')(h1:¬F p)(h2:¬F sc):qb8 w' lo p sc S:=by
 obtain⟨hb,hr,hl,hn⟩:=h;refine⟨(ho.block p (qa0 hb) h1).trans hb,ho.rows (λb hb'=>?_) hr,hl,hn⟩;rw[qa8]at hb';split at hb'
 · cases hb'
 · cases hb';exact h2
theorem RdAt.only{F:Nat->Prop}{w w':World}{lo p rc now:Nat}{H:List Nat}(h:RdAt w lo p rc now H)(ho:Only F w w')(h1:¬F p)(h2:¬F rc):RdAt w' lo p rc now H:=
 ⟨(ho.block p (qa0 h.box) h1).trans h.box,(ho.block rc (qa0 h.rows) h2).trans h.rows,h.lo,h.len,h.now1⟩
theorem qbi.only{F:Nat->Prop}{w w':World}{lo p oc now dur clo:Nat}{owed:List Int}{noted left:List Bool}{step:Value}(h:qbi w lo p oc now dur clo owed noted left step)(ho:Only F w w')(h1:¬F p)(h2:¬F oc):qbi w' lo p oc now dur clo owed noted left step:=
 ⟨(ho.block p (qa0 h.box) h1).trans h.box,(ho.block oc (qa0 h.rows) h2).trans h.rows,h.lo,h.len⟩
theorem qfi.only{F:Nat->Prop}{w w':World}{lo p:Nat}{A:Option Addr}{c:Nat}{l:List EntC}(h:qfi w lo p A c l)(ho:Only F w w')(h1:¬F p)(h2:∀b,qa8 A c=some b->¬F b):qfi w' lo p A c l:=
 ⟨(ho.block p (qa0 h.box) h1).trans h.box,ho.rows h2 h.rows,h.lo⟩
theorem qbo.only{F:Nat->Prop}{w w':World}{lo p c at' n:Nat}{A:Option Addr}{L:List qa3}(h:qbo w lo p A c L at' n)(ho:Only F w w')(h1:¬F p)(h2:∀b,qa8 A c=some b->¬F b):qbo w' lo p A c L at' n:=
 ⟨(ho.block p (qa0 h.box) h1).trans h.box,ho.rows h2 h.rows,h.lo,h.fit,h.nil⟩
end
section
open Go.RowKit
theorem qdp{P:Program}{fn:Func}{p t:Tmp}{ty:TypeId}(h:fn.results=#[.cell p ty,.tmp t])(tmps:Array Value)(w:World)(b:Nat)(cs:List Value)(d:TypeDesc)
 (hp:tmps.getD p undef=.pointer (some ⟨b,0,none⟩)) (hc:w.rangeAt b 0 cs) (hu:P.underlying ty=some d) (hd:d.isRow=true) (hi:(P.info? ty).map (·.size)=some cs.length):(results fn tmps).run P w=.ok (.tuple #[.agg cs.toArray,tmps.getD t undef]) w:=by
 have hp':tmps[p]?.getD undef=.pointer (some ⟨b,0,none⟩):=by simpa using hp
 simp[results,h,hp',asAddr,run_loadVar_mid w b 0 ty cs d hc hu hd hi,Result.andThen]
theorem qb5{w:World}{b:Nat}{cs:List Value}{t:TypeId}(h:w.heap[b]? =some (.cells cs.toArray t (0,0))):w.rangeAt b 0 cs:=λj v hv=>by
 rw[Nat.zero_add,cell_of_row w b j _ _ _ h,List.getElem?_toArray]
 exact hv
theorem qsl:(prog.info? 85).map (·.size)=some 5:=by kernel_rfl
theorem qw8:∃d,prog.underlying 85=some d/\d.isRow=true:=⟨_,underlying85,rfl⟩
theorem qdq{fn:Func}{p t:Tmp}(h:fn.results=#[.cell p 85,.tmp t])(tmps:Array Value)(w:World)(b:Nat)(x:qa3)(v:Value)(hp:tmps.getD p undef=.pointer (some ⟨b,0,none⟩))(ht:tmps.getD t undef=v)
 (hb:w.heap[b]? =some (.cells x.enc.toArray 85 (0,0))):(results fn tmps).run prog w=.ok (.tuple #[x.val,v]) w:=by
 obtain⟨d,h1,h2⟩:=qw8;rw[qdp h tmps w b x.enc d hp (qb5 hb) h1 h2 qsl,ht];rfl
theorem qB3{w:World}{b:Nat}{t:TypeId}{a c d e f a' c' d' e' f':Value}(h:w.heap[b]? =some (.cells #[a,c,d,e,f] t (0,0))):(((((w.setCell ⟨b,0,none⟩ a').setCell ⟨b,1,none⟩ c').setCell ⟨b,2,none⟩ d').setCell ⟨b,3,none⟩ e').setCell ⟨b,4,none⟩ f').heap[b]? =some (.cells #[a',c',d',e',f'] t (0,0)):=
 heap_setCell_same _ b 4 _ _ f' (heap_setCell_same _ b 3 _ _ e' (heap_setCell_same _ b 2 _ _ d' (heap_setCell_same _ b 1 _ _ c' (heap_setCell_same w b 0 _ _ a' h))))
theorem box5{w:World}{b:Nat}{t:TypeId}{y x:qa3}(h:w.heap[b]? =some (.cells y.enc.toArray t (0,0))):(w.setCells b 0 x.enc).heap[b]? =some (.cells x.enc.toArray t (0,0)):=
 qB3 (a:=.string y.key) (c:=.int .u64 (y.id:Int)) (d:=.int .u64 (y.ver:Int)) (e:=.int .i64 y.line) (f:=.int .i64 y.cls) h
end
section
open Go.RowKit
def tabC(mb:Nat->Nat):List Value:=[.map (some (mb 0)),.map (some (mb 1)),.map (some (mb 2)),.map (some (mb 3)),.map (some (mb 4)),.map (some (mb 5)),.map (some (mb 6)),.map (some (mb 7))]
structure qbk(F:Nat->Prop)(w:World)(tb:Nat)(mb:Nat->Nat)(B:Nat->List qa3):Prop where
 box:w.heap[tb]? =some (.cells (tabC mb).toArray 198 (0,0))
 map:∀i,i<8->MapL w (mb i) (B i)
 inj:∀i j,i<8->j<8->mb i=mb j->i=j
 bkt:∀i,i<8->∀x∈B i,bucket x.key=i/\x.key.size<=1000000
 own:F tb/\∀i,i<8->F (mb i)
section
variable {F:Nat->Prop}{w w':World}{tb:Nat}{mb:Nat->Nat}{B:Nat->List qa3}
theorem qbk.cell(h:qbk F w tb mb B){i:Nat}(hi:i<8):w.cell? ⟨tb,i,none⟩=some (.map (some (mb i))):=by
 rw[cell_of_row w tb i _ _ _ h.box];rcases(by omega:i=0\/i=1\/i=2\/i=3\/i=4\/i=5\/i=6\/i=7)with rfl|rfl|rfl|rfl|rfl|rfl|rfl|rfl <;> rfl
theorem qbk.lt(h:qbk F w tb mb B):tb<w.heap.size:=qa0 h.box
theorem qbk.same(h:qbk F w tb mb B)(h1:w'.heap[tb]? =w.heap[tb]?)(h2:∀i,i<8->w'.heap[mb i]? =w.heap[mb i]?):qbk F w' tb mb B:=⟨h1.trans h.box,λi hi=>(h.map i hi).same (h2 i hi),h.inj,h.bkt,h.own⟩
theorem qbk.below(h:qbk F w tb mb B)(hb:Below w.heap.size w w'):qbk F w' tb mb B:=h.same (hb.block _ h.lt) λi hi=>hb.block _ (h.map i hi).lt
theorem qbk.only{G:Nat->Prop}(h:qbk F w tb mb B)(ho:Only G w w')(hG:∀j,F j->¬G j):qbk F w' tb mb B:=h.same (ho.block _ h.lt (hG _ h.own.1)) λi hi=>ho.block _ (h.map i hi).lt (hG _ (h.own.2 i hi))
theorem qbk.mono{G:Nat->Prop}(h:qbk F w tb mb B)(hFG:∀j,F j->G j):qbk G w tb mb B:=⟨h.box,h.map,h.inj,h.bkt,hFG _ h.own.1,λi hi=>hFG _ (h.own.2 i hi)⟩
theorem qb6(s:ByteArray):bucket s<8:=Nat.mod_lt _ (by decide)
theorem qh4(h:qbk F w tb mb B)(key:ByteArray)(hk:key.size<=1000000):Calls prog 325 #[.pointer (some ⟨tb,0,none⟩),.string key] w λe w'=>e=.returned (.map (some (mb (bucket key))))/\Below w.heap.size w w':=by
 have hb8:=qb6 key;have TB:=λW=>qg9 key W hk
 obtain⟨k,hk⟩:∃k,k=bucket key:=⟨_,rfl⟩;rw[<-hk]at hb8 TB ⊢;have hc:=h.cell hb8;have hlt:=h.lt;have hk8:(k:Int)<8:=by omega
 clear hk h;go_enter func325,ntmps325;go_wp2_with fail;go_region_with (go_at_call 240;refine(TB _).mono ?_;rintro e w1⟨rfl,rfl⟩);all_goals
  go_wp2_with fail;go_ret;exact⟨rfl,(by repeat(first|exact Below.refl _ _|assumption|refine Below.drew ?_|refine qa1 ?_ _|refine Below.alloc ?_ (by first|omega|simp <;> omega) _|refine Below.setCell ?_ (by first|omega|simp <;> omega) _))⟩
theorem qpt(h:qbk F w tb mb B)(key:ByteArray)(hk:key.size<=1000000):Calls prog 339 #[.pointer (some ⟨tb,0,none⟩),.string key] w λe w'=>e=.returned (.tuple #[((qd0 (B (bucket key)) key).getD qak).val,.bool (qd0 (B (bucket key)) key).isSome])/\Below w.heap.size w w':=by
 have H:=hid h;have HK:=hid hk;have hb8:=qb6 key;clear h hk;obtain⟨y,hy⟩:∃y,y=(qd0 (B (bucket key)) key).getD qak:=⟨_,rfl⟩;obtain⟨ok,hok⟩:∃ok,ok=(qd0 (B (bucket key)) key).isSome:=⟨_,rfl⟩;have HXV:=hid (show y.val=.agg #[.string y.key,.int .u64 (y.id:Int),.int .u64 (y.ver:Int),.int .i64 y.line,.int .i64 y.cls]from rfl);rw[<-hy,<-hok];go_enter func339,ntmps339;go_upto_region 1 with fail;generalize hw1:World.alloc w _=w1;have b1:Below w.heap.size w w1:=by rw[<-hw1];exact(Below.refl _ _).alloc (Nat.le_refl _) _
 have R1:w1.heap[w.heap.size]? =some (.cells qak.enc.toArray 85 (0,0)):=by rw[<-hw1];exact(qa2 _ _ _).trans (if_pos rfl)
 have HR1:=hid R1;have HB1:=hid b1;have H1:=hid (H.out.below b1);have hl1:=qa0 R1;clear hw1 R1 b1;go_wp2_with fail;refine(qh4 H1.out key HK.out).mono ?_;rintro e w2⟨rfl,b2⟩;have H2:=hid (H1.out.below b2);have lk:=qk6 (H2.out.map _ hb8) key;rw[<-hy,<-hok,HXV.out]at lk;have R2:=(b2.block _ hl1).trans HR1.out;have f0:=frozen_of_row w2 _ 0 _ _ R2;have f1:=frozen_of_row w2 _ 1 _ _ R2;have f2:=frozen_of_row w2 _ 2 _ _ R2;have f3:=frozen_of_row w2 _ 3 _ _ R2;have f4:=frozen_of_row w2 _ 4 _ _ R2;have q0:=cell_of_row w2 _ 0 _ _ _ R2;have q1:=cell_of_row w2 _ 1 _ _ _ R2;have q2:=cell_of_row w2 _ 2 _ _ _ R2;have q3:=cell_of_row w2 _ 3 _ _ _ R2;have q4:=cell_of_row w2 _ 4 _ _ _ R2;simp only[qa3.enc,List.getElem?_toArray,List.getElem?_cons_zero,List.getElem?_cons_succ]at q0 q1 q2 q3 q4;have hl2:=qa0 R2;have HB2:=hid (HB1.out.trans (b2.mono HB1.out.size));have HY:=hid hy;have HOKK:=hid hok;have HR2:=hid R2;clear R2 b2 H1 H2 hy hok;go_wp2_with fail;refine bodyPost_ret (v:=.tuple #[y.val,.bool ok]) (qdq results339 _ _ w.heap.size y _ (by simp) (by simp) ?_) rfl ⟨rfl,?_⟩
 · exact(Below.heap_alloc _ _ _ (by simp;exact hl2)).trans (box5 HR2.out)
 · exact((((((HB2.out.setCell (p:=⟨w.heap.size,0,none⟩) (Nat.le_refl _) _).setCell (p:=⟨w.heap.size,1,none⟩) (Nat.le_refl _) _).setCell (p:=⟨w.heap.size,2,none⟩) (Nat.le_refl _) _).setCell (p:=⟨w.heap.size,3,none⟩) (Nat.le_refl _) _).setCell (p:=⟨w.heap.size,4,none⟩) (Nat.le_refl _) _).alloc (by simp;exact HB2.out.size) _)
end
end
end Go.Proofs.YtecikkjbnkhhkaaGreat
