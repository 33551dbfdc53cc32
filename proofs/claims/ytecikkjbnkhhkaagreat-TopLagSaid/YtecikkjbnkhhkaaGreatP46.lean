/- A part of the walk. -/
import Derived.Test.YtecikkjbnkhhkaaGreatP43
import Derived.Test.YtecikkjbnkhhkaaGreatP45
namespace Go.Proofs.YtecikkjbnkhhkaaGreat
open _root_.Go.Proofs.Tryz
set_option maxRecDepth 100000
section
open Go.RowKit
section
variable {g:Own8}{w:World}{wb a t:Nat}{P:qag}{M:qa4}{c:CfgC}{T:List ThrC}{D:Nat->FrD}{steps:Int}{sA:Option Addr}{sc:Nat}{S:List qap}
theorem qpk(h:WAt g w wb a P M c T D steps sA sc S)(hth:c.th<=4)(ht:t<c.th)(htT:t<T.length)(k l:Int)(cl:qa7)(kA:Option Addr)(kn kc:Nat)(hbusy:T[t].busy=true):
 Calls prog 53 #[.pointer (some ⟨wb,0,none⟩),.agg (evL k (t:Int) l cl kA kn kc).toArray] w (λe w'=>e=.returned (.int .i64 7)/\Below w.heap.size w w'):=by
 have H:=hid h;clear h;unfold evL;go_enter func53,ntmps53;go_upto_region 1 with fail;generalize hw1:World.alloc _ _=w1;have R0:w1.heap[w.heap.size]? =some (.cells (evL k (t:Int) l cl kA kn kc).toArray 42 (0,0)):=by rw[<-hw1];exact qaq _ _
 have b1:Below w.heap.size w w1:=by rw[<-hw1];exact(Below.refl _ _).alloc (Nat.le_refl _) _
 have h1:=H.out.below b1;have k1:w1.cell? ⟨w.heap.size,1,none⟩=some (.int .i64 (t:Int)):=cell_of_row w1 _ 1 _ _ _ R0;have TT:=hid (qdn h1.bx t ht hth);have HB1:=hid b1;have hbz:w1.cell? ⟨wb,8+t*30,none⟩=some (.bool true):=by have:=h1.bx.thr htT 0 (by omega) rfl;rw[<-hbusy];exact this
 clear hw1 b1 R0 h1;go_wp2_with fail;refine TT.out.mono ?_;rintro e w2⟨rfl,he⟩;rw[he];clear he TT;go_wp2_with fail;go_ret;exact⟨rfl,HB1.out⟩
theorem qpj(h:WAt g w wb a P M c T D steps sA sc S)(hth:c.th<=4)(ht:t<c.th)(htT:t<T.length)(k l:Int)(cl:qa7)(kA:Option Addr)(kn kc:Nat)(hbusy:T[t].busy=false):
 Calls prog 54 #[.pointer (some ⟨wb,0,none⟩),.agg (evL k (t:Int) l cl kA kn kc).toArray] w (λe w'=>e=.returned (.int .i64 12)/\Below w.heap.size w w'):=by
 have H:=hid h;clear h;unfold evL;go_enter func54,ntmps54;go_upto_region 1 with fail;generalize hw1:World.alloc _ _=w1;have R0:w1.heap[w.heap.size]? =some (.cells (evL k (t:Int) l cl kA kn kc).toArray 42 (0,0)):=by rw[<-hw1];exact qaq _ _
 have b1:Below w.heap.size w w1:=by rw[<-hw1];exact(Below.refl _ _).alloc (Nat.le_refl _) _
 have h1:=H.out.below b1;have k1:w1.cell? ⟨w.heap.size,1,none⟩=some (.int .i64 (t:Int)):=cell_of_row w1 _ 1 _ _ _ R0;have TT:=hid (qdn h1.bx t ht hth);have HB1:=hid b1;have hbz:w1.cell? ⟨wb,8+t*30,none⟩=some (.bool false):=by have:=h1.bx.thr htT 0 (by omega) rfl;rw[<-hbusy];exact this
 clear hw1 b1 R0 h1;go_wp2_with fail;refine TT.out.mono ?_;rintro e w2⟨rfl,he⟩;rw[he];clear he TT;go_wp2_with fail;go_ret;exact⟨rfl,HB1.out⟩
end
end
section
open Go.RowKit Go.MapKept
open Go.ChangeMaps (setBlock)
def doN:Nat->Nat
 |0=>53
 |1=>54
 |2=>55
 |3=>56
 |4=>57
 |_=>58
def fnV(n:Nat):Value:=.func (.func n) #[] #[]
def doE1(i:Nat):MapEntry:={key:=.int .i64 ((i:Int)+1),val:=fnV (doN i),born:=i}
def DoM(w:World)(r n:Nat):Prop:=w.heap[r]? =some (.map ((List.range n).map doE1).toArray n)
theorem qti(n m:Nat)(hn:n<=6)(hm:m<6):Instr.findNow (.int .i64) (.int .i64 ((m:Int)+1)) ((List.range n).map doE1) 0=some (if m<n then some (m,fnV (doN m))else none):=by
 rcases(by omega:n=0\/n=1\/n=2\/n=3\/n=4\/n=5\/n=6)with rfl|rfl|rfl|rfl|rfl|rfl|rfl <;>
  rcases(by omega:m=0\/m=1\/m=2\/m=3\/m=4\/m=5)with rfl|rfl|rfl|rfl|rfl|rfl <;> rfl
section
variable {w:World}{r n:Nat}
theorem qj7(h:DoM w r n)(hn:n<6):∃w':World,(Instr.mapUpdate 98 (.map (some r)) (.int .i64 ((n:Int)+1)) (fnV (doN n))).run prog w=.ok () w'/\DoM w' r (n+1)/\w.grownBy w' (some r)/\w'.heap.size=w.heap.size:=by
 have hb:w.heap[r]? =_:=h;have ht:prog.underlying 98=some (.map 3 96):=underlying98;have hs:prog.underlying 3=some (.int .i64):=underlying3;have h1:=qti n n (by omega) hn;rw[if_neg (Nat.lt_irrefl _)]at h1;refine⟨setBlock w r (.map ((((List.range n).map doE1).toArray).push {key:=.int .i64 ((n:Int)+1),val:=fnV (doN n),born:=n}) (n+1)),?_,?_,qe8 hb,by simp[setBlock]⟩
 · simp[Instr.mapUpdate,run_underlying ht,MapKept.run_getObj_map hb,run_checkKey hs (k:=.int .i64 ((n:Int)+1)) (by first|rfl|simp[IsKey]),run_findKey hs h1,MapKept.run_setObj_map _ hb,Result.andThen,setBlock]
 · refine(heap_set hb).1.trans ?_
   rw[List.range_succ,List.map_append];simp[doE1]
theorem qzg(h:DoM w r 6){m:Nat}(hm:m<6):(Instr.lookup 98 (.map (some r)) (.int .i64 ((m:Int)+1)) true).run prog w=.ok (.tuple #[fnV (doN m),.bool true]) w:=by
 have hb:w.heap[r]? =_:=h;have ht:prog.underlying 98=some (.map 3 96):=underlying98;have hs:prog.underlying 3=some (.int .i64):=underlying3;have h1:=qti 6 m (by omega) hm;rw[if_pos hm]at h1;simp[Instr.lookup,run_underlying ht,MapKept.run_getObj_map hb,run_checkKey hs (k:=.int .i64 ((m:Int)+1)) (by first|rfl|simp[IsKey]),run_findKey hs h1,Result.andThen]
theorem qsf(W:World):(Instr.makeMap 98 none).run prog W=.ok (.map (some W.heap.size)) (W.alloc (.map #[] 0)):=by kernel_rfl
theorem qqo(w:World):Calls prog 34 #[] w λe w'=>∃r,e=.returned (.map (some r))/\DoM w' r 6/\Below w.heap.size w w':=by
 have MM:=qsf w;have m0:DoM (w.alloc (.map #[] 0)) w.heap.size 0:=qaq _ _;have b0:Below w.heap.size w (w.alloc (.map #[] 0)):=(Below.refl _ _).alloc (Nat.le_refl _) _;generalize w.alloc (.map #[] 0)=w0 at MM m0 b0;obtain⟨r,hr⟩:∃r,r=w.heap.size:=⟨_,rfl⟩;rw[<-hr]at MM m0;obtain⟨w1,p1,m1,g1,z1⟩:=qj7 m0 (by omega);obtain⟨w2,p2,m2,g2,z2⟩:=qj7 m1 (by omega);obtain⟨w3,p3,m3,g3,z3⟩:=qj7 m2 (by omega);obtain⟨w4,p4,m4,g4,z4⟩:=qj7 m3 (by omega);obtain⟨w5,p5,m5,g5,z5⟩:=qj7 m4 (by omega);obtain⟨w6,p6,m6,g6,z6⟩:=qj7 m5 (by omega);have hg:∀{u v:World},Below w.heap.size w u->u.grownBy v (some r)->Below w.heap.size w v:=λ{u v} hb hg =>
  ⟨hg.os.trans hb.os,hg.tape.trans hb.tape,hg.output.trans hb.output,Nat.le_trans hb.size hg.size,λi hi=>(hg.block i (by have:=hb.size;omega) (λe=>by cases e;omega)).trans (hb.block i hi)⟩
 have b6:=hid (hg (hg (hg (hg (hg (hg b0 g1) g2) g3) g4) g5) g6);have M6:=hid m6;clear hr m0 m1 m2 m3 m4 m5 m6 g1 g2 g3 g4 g5 g6 z1 z2 z3 z4 z5 z6 b0 hg;rw[show((0:Nat):Int)+1=1 from rfl]at p1;rw[show((0+1:Nat):Int)+1=2 from rfl]at p2;rw[show((0+1+1:Nat):Int)+1=3 from rfl]at p3;rw[show((0+1+1+1:Nat):Int)+1=4 from rfl]at p4;rw[show((0+1+1+1+1:Nat):Int)+1=5 from rfl]at p5;rw[show((0+1+1+1+1+1:Nat):Int)+1=6 from rfl]at p6;simp only[fnV,doN]at p1 p2 p3 p4 p5 p6;go_enter func34,ntmps34;go_wp2_with fail;go_ret;exact⟨r,rfl,M6.out,b6.out⟩
end
end
section
open Go.RowKit Go.MapKept
open Go.ChangeMaps (setBlock)
def kpN:Nat->Nat
 |0=>148
 |1=>149
 |_=>150
def kpV(b n:Nat):Value:=.func (.func (kpN n)) #[.pointer (some ⟨b,0,none⟩)] #[]
def kpE(b i:Nat):MapEntry:={key:=.int .i64 (i:Int),val:=kpV b i,born:=i}
def KpMp(w:World)(r b n:Nat):Prop:=w.heap[r]? =some (.map ((List.range n).map (kpE b)).toArray n)
theorem qE3(b n m:Nat)(hn:n<=3)(hm:m<3):Instr.findNow (.int .i64) (.int .i64 (m:Int)) ((List.range n).map (kpE b)) 0=some (if m<n then some (m,kpV b m)else none):=by
 rcases(by omega:n=0\/n=1\/n=2\/n=3)with rfl|rfl|rfl|rfl <;>
  rcases(by omega:m=0\/m=1\/m=2)with rfl|rfl|rfl <;> rfl
section
variable {w:World}{r b n:Nat}
theorem qE2(h:KpMp w r b n)(hn:n<3):∃w':World,(Instr.mapUpdate 240 (.map (some r)) (.int .i64 (n:Int)) (kpV b n)).run prog w=.ok () w'/\KpMp w' r b (n+1)/\w.grownBy w' (some r)/\w'.heap.size=w.heap.size:=by
 have hb:w.heap[r]? =_:=h;have ht:prog.underlying 240=some (.map 3 1):=underlying240;have hs:prog.underlying 3=some (.int .i64):=underlying3;have h1:=qE3 b n n (by omega) hn;rw[if_neg (Nat.lt_irrefl _)]at h1;refine⟨setBlock w r (.map ((((List.range n).map (kpE b)).toArray).push {key:=.int .i64 (n:Int),val:=kpV b n,born:=n}) (n+1)),?_,?_,qe8 hb,by simp[setBlock]⟩
 · simp[Instr.mapUpdate,run_underlying ht,MapKept.run_getObj_map hb,run_checkKey hs (k:=.int .i64 (n:Int)) (by first|rfl|simp[IsKey]),run_findKey hs h1,MapKept.run_setObj_map _ hb,Result.andThen,setBlock]
 · refine(heap_set hb).1.trans ?_
   rw[List.range_succ,List.map_append];simp[kpE]
theorem qF5(h:KpMp w r b 3){m:Nat}(hm:m<3):(Instr.lookup 240 (.map (some r)) (.int .i64 (m:Int)) true).run prog w=.ok (.tuple #[kpV b m,.bool true]) w:=by
 have hb:w.heap[r]? =_:=h;have ht:prog.underlying 240=some (.map 3 1):=underlying240;have hs:prog.underlying 3=some (.int .i64):=underlying3;have h1:=qE3 b 3 m (by omega) hm;rw[if_pos hm]at h1;simp[Instr.lookup,run_underlying ht,MapKept.run_getObj_map hb,run_checkKey hs (k:=.int .i64 (m:Int)) (by first|rfl|simp[IsKey]),run_findKey hs h1,Result.andThen]
theorem qE1(W:World):(Instr.makeMap 240 none).run prog W=.ok (.map (some W.heap.size)) (W.alloc (.map #[] 0)):=by kernel_rfl
theorem qD8(w:World)(b:Nat):Calls prog 114 #[.pointer (some ⟨b,0,none⟩)] w λe w'=>∃r,e=.returned (.map (some r))/\KpMp w' r b 3/\Below w.heap.size w w':=by
 have MM:=qE1 w;have mf:∀(fn:Fn) (first cap:Array Value) (W:World),(Instr.makeFunc fn first cap).run prog W=.ok (.func fn first cap) W:=λ_ _ _ _=>rfl
 have m0:KpMp (w.alloc (.map #[] 0)) w.heap.size b 0:=qaq _ _;have b0:Below w.heap.size w (w.alloc (.map #[] 0)):=(Below.refl _ _).alloc (Nat.le_refl _) _;generalize w.alloc (.map #[] 0)=w0 at MM m0 b0;obtain⟨r,hr⟩:∃r,r=w.heap.size:=⟨_,rfl⟩;rw[<-hr]at MM m0;obtain⟨w1,p1,m1,g1,z1⟩:=qE2 m0 (by omega);obtain⟨w2,p2,m2,g2,z2⟩:=qE2 m1 (by omega);obtain⟨w3,p3,m3,g3,z3⟩:=qE2 m2 (by omega);have hg:∀{u v:World},Below w.heap.size w u->u.grownBy v (some r)->Below w.heap.size w v:=λ{u v} hb hg =>
  ⟨hg.os.trans hb.os,hg.tape.trans hb.tape,hg.output.trans hb.output,Nat.le_trans hb.size hg.size,λi hi=>(hg.block i (by have:=hb.size;omega) (λe=>by cases e;omega)).trans (hb.block i hi)⟩
 have b3:=hid (hg (hg (hg b0 g1) g2) g3);have M3:=hid m3;clear hr m0 m1 m2 m3 g1 g2 g3 z1 z2 z3 b0 hg;rw[show((0:Nat):Int)=0 from rfl]at p1;rw[show((0+1:Nat):Int)=1 from rfl]at p2;rw[show((0+1+1:Nat):Int)=2 from rfl]at p3;simp only[kpV,kpN]at p1 p2 p3;go_enter func114,ntmps114;go_wp2_with fail;go_ret;exact⟨r,rfl,M3.out,b3.out⟩
end
end
section
open Go.RowKit
section
variable {g:Own8}{w w':World}{wb a:Nat}{P:qag}{M:qa4}{c c':CfgC}{T:List ThrC}{D:Nat->FrD}{steps:Int}{sA:Option Addr}{sn sc dp:Nat}{S:List qap}
theorem WBox.setHead(h:WBox w wb c dp a T steps sA sn sc){j:Nat}(hj:j<8)(v:Value)(hv:(wldA c dp a).set j v=wldA c' dp a)(hs:c'.st=c.st):WBox (w.setCell ⟨wb,j,none⟩ v) wb c' dp a T steps sA sn sc:=by
 refine⟨?_,h.len⟩;rw[qay h.row j v];congr 3;unfold wldC;rw[List.set_append_left _ _ (by show j<8;exact hj),hv,hs]
theorem WBox.setSt(h:WBox w wb c dp a T steps sA sn sc)(st:Int):WBox (w.setCell ⟨wb,129,none⟩ (.int .i64 st)) wb {c with st:=st} dp a T steps sA sn sc:=by
 refine⟨?_,h.len⟩;rw[qay h.row 129 _];congr 3;unfold wldC;have hl:(wldA c dp a).length=8:=rfl;have hf:(T.flatMap ThrC.enc).length=120:=by rw[qao ThrC.enc_len,h.len]
 rw[List.set_append_right _ _ (by rw[hl];omega),List.set_append_right _ _ (by rw[hl,hf];omega),hl,hf];rfl
theorem WAt.setKeep(h:WAt g w wb a P M c T D steps sA sc S)(ph left:Int):WAt g ((w.setCell ⟨wb,6,none⟩ (.int .i64 ph)).setCell ⟨wb,7,none⟩ (.int .i64 left)) wb a P M {c with ph:=ph,left:=left} T D steps sA sc S:=
 have h1:WAt g (w.setCell ⟨wb,6,none⟩ (.int .i64 ph)) wb a P M {c with ph:=ph} T D steps sA sc S:=h.rebox ⟨rfl,rfl,rfl,World.size_setCell ..⟩ (λj hj=>Below.heap_setCell _ _ _ _ hj) (h.bx.setHead (j:=6) (by omega) _ rfl rfl) h.thr
 h1.rebox ⟨rfl,rfl,rfl,World.size_setCell ..⟩ (λj hj=>Below.heap_setCell _ _ _ _ hj) (h1.bx.setHead (j:=7) (by omega) _ rfl rfl) h1.thr
def qDx(wb dp a:Nat)(c:CfgC)(T:List ThrC)(steps:Int)(sA:Option Addr)(sn sc:Nat)(w:World)(e:Ending)(w':World):Prop:=e=.returned (.tuple #[])/\∃st,WBox w' wb {c with st:=st} dp a T steps sA sn sc/\(w'.os=w.os/\w'.tape=w.tape/\w'.output=w.output/\w'.heap.size=w.heap.size)/\∀j,j≠wb->w'.heap[j]? =w.heap[j]?
theorem qCm(h:WBox w wb c dp a T steps sA sn sc)(act:Int):Calls prog 84 #[.pointer (some ⟨wb,0,none⟩),.int .i64 act] w (qDx wb dp a c T steps sA sn sc w):=by
 have H:=hid h;have c1:w.cell? ⟨wb,129,none⟩=some (.int .i64 c.st):=h.tail 1 rfl;have fr:=h.fr;have hl:=h.lt;clear h;by_cases h3:act=3
 · have d3:(act==3)=true:=by rw[h3];rfl
   go_enter func84,ntmps84;go_wp2_with fail;refine bodyPost_ret (v:=.tuple #[]) (by simp[results,results84]) rfl ⟨rfl,_,H.out.setSt _,⟨rfl,rfl,rfl,World.size_setCell ..⟩,λj hj=>Below.heap_setCell _ _ _ _ hj⟩
 · have d3:(act==3)=false:=by rw[beq_eq_false_iff_ne];exact h3
   clear h3;go_enter func84,ntmps84;go_wp2_with fail;refine bodyPost_ret (v:=.tuple #[]) (by simp[results,results84]) rfl ⟨rfl,c.st,H.out,⟨rfl,rfl,rfl,rfl⟩,λ_ _=>rfl⟩
end
end
end Go.Proofs.YtecikkjbnkhhkaaGreat
