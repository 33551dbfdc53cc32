/- A part of the walk. -/
import Derived.Test.YtecikkjbnkhhkaaGreatP12
import Derived.Test.YtecikkjbnkhhkaaGreatP13
import Derived.Shelf.SlSortCmp.NoneTotal
namespace Go.Proofs.YtecikkjbnkhhkaaGreat
open _root_.Go.Proofs.Tryz
set_option maxHeartbeats 4000000
set_option maxRecDepth 100000
section
open Go.RowKit
theorem qmx(k:Nat)(c:Int):(qb1 k c).length<=8:=by
 unfold qb1;split
 · simp
 · rw[List.length_map,List.length_range]
   exact Nat.div_le_self _ _
theorem qmy{i:Nat}{c:Int}{k k':Nat}(h:k<(qb1 i c).length)(h':k'<(qb1 i c).length)(e:(qb1 i c)[k]=(qb1 i c)[k']):k=k':=by
 have h0:¬(qa9 c=0\/32<=i):=λh0=>by simp[qb1,h0]at h
 simp only[qb1,if_neg h0,List.getElem_map,List.getElem_range]at e;have hp:0<qa9 c:=by omega
 exact Nat.eq_of_mul_eq_mul_right hp (by omega)
def qxj(S:List qan)(line:Int):Prop:=∀(i k:Nat) (hi:i<S.length) (hk:k<S[i].taken.length) (hs:k<(qb1 i S[i].cls).length),qcc line=(i:Int)->line=((qb1 i S[i].cls)[k]:Int)->S[i].taken[k]=false
def qA1(sc:Nat)(S:List qan)(line:Int)(w:World)(e:Ending)(w':World):Prop:=
 Below w.heap.size w w'/\∃(pv:Value) (kk:Int) (ok:Bool),e=.returned (.tuple #[pv,.int .i64 kk,.bool ok]) /\
  (ok=true->∃(i k:Nat) (hi:i<S.length),pv=.pointer (some ⟨sc,i*10,none⟩)/\kk=k/\k<8/\(∃hk:k<S[i].taken.length,S[i].taken[k]=true)/\∃hs:k<(qb1 i S[i].cls).length,line=((qb1 i S[i].cls)[k]:Int)) /\
  (ok=false->qxj S line)
theorem qya(w:World)(lo p sc:Nat)(S:List qan)(h:qb8 w lo p sc S)(line:Int):Calls prog 318 #[.pointer (some ⟨p,0,none⟩),.int .i64 line] w (qA1 sc S line w):=by
 have H:=hid h;have hp:=qa0 h.box;have p0:=cell_of_row w p 0 _ _ _ h.box;have hlen:=h.len;have TA:=hid (qhi w lo p sc S h);clear h;by_cases hi0:qcc line<0
 · have HI0:=hid hi0
   have HN0:Hid (qxj S line):=hid λi' k' _ _ _ h1=>absurd h1 (by omega)
   go_enter func318,ntmps318;go_wp2_with fail;refine(qfo line w).mono ?_;rintro e w1⟨rfl,rfl⟩;generalize qcc line=sl at *;go_wp2_with fail;refine bodyPost_ret (v:=.tuple #[.pointer none,.int .i64 0,.bool false]) (by simp[results,results318]) rfl ⟨Below.refl _ _,_,_,false,rfl,(λh=>by cases h),λ_=>HN0.out⟩
 · obtain⟨i,hi⟩:∃i:Nat,qcc line=(i:Int):=⟨(qcc line).toNat,by omega⟩
   have hin:¬(i:Int)<0:=by omega
   have HI:=hid hi;clear hi hi0;by_cases hlt:i<S.length
   · have hlti:(i:Int)<(S.length:Int):=by omega
     have hs:=H.out.slab hlt;have c0:=hs.cls;have hsc:=hs.lt;have HS:=hid hs;have TS:=hid (qpw i S[i].cls w (by omega));have hsl:=qmx i S[i].cls;clear hs;go_enter func318,ntmps318;go_wp2_with fail;refine(qfo line w).mono ?_;rintro e w1⟨rfl,rfl⟩;rw[HI.out];go_wp2_with fail;refine TA.out.mono ?_;rintro e w2⟨rfl,rfl⟩;go_wp2_with fail;refine TS.out.mono ?_;rintro e w3⟨A,ca,rfl,hown,hb⟩;have HO:=hid hown;have HB:=hid hb;have HLS:=hid hsl;clear hown hb c0 p0 hsl;go_wp2_with fail;refine(qsv _ line A ca w3 (HO.out.arr qjz) HO.out.len HO.out.max).mono ?_;rintro e w4⟨rfl,r,rfl,hr⟩;have hs4:qu8 w4 sc i S[i]:=by
      have hl:=HS.out.lt;exact⟨(HB.out.cell (p:=⟨sc,i*10,none⟩) hl).trans HS.out.cls,λk hk=>(HB.out.cell (p:=⟨sc,i*10+1+k,none⟩) hl).trans (HS.out.taken k hk),(HB.out.cell (p:=⟨sc,i*10+9,none⟩) hl).trans HS.out.n,λk=>(HB.out.frozen (p:=⟨sc,k,none⟩) hl).trans (HS.out.fr k),Nat.lt_of_lt_of_le hl HB.out.size⟩
     have HS4:=hid hs4;have hl4:=hs4.lt;clear hs4;rcases hr with⟨rfl,hno⟩|⟨k,hk,rfl,hlk⟩
     · have HNO:=hid hno
       clear hno;go_wp2_with fail;go_quiet (fail);go_wp2_with fail;refine bodyPost_ret (v:=.tuple #[.pointer (some ⟨sc,i*10,none⟩),.int .i64 (-1),.bool false]) (by simp[results,results318]) rfl ⟨qa1 HB.out _,_,_,false,rfl,(λh=>by cases h),λ_ i' k' hi' hk' hs' h1 h2=>by obtain rfl:i'=i:=(by have:=HI.out;omega);exact absurd h2 (HNO.out k' hs')⟩
     · have hk8:k<8:=by have:=HLS.out;omega
       have hk8i:(k:Int)<8:=by omega
       have hk0:(0:Int)<=(k:Int):=by omega
       have hkt:k<S[i].taken.length:=by rw[S[i].ht];exact hk8
       have tk:=HS4.out.taken k hk8;have HK:=hid (And.intro hk8 (And.intro hkt ⟨hk,hlk⟩:k<S[i].taken.length/\∃hs:k<(qb1 i S[i].cls).length,line=((qb1 i S[i].cls)[k]:Int)));have HTK:Hid (S[i].taken[k]=S[i].taken[k]):=hid rfl;clear hlk;cases hb:S[i].taken[k]with
       |true =>
        have HBT:=hid hb;rw[hb]at tk;clear hb HTK;go_wp2_with fail;go_quiet (fail);go_wp2_with fail;refine bodyPost_ret (v:=.tuple #[.pointer (some ⟨sc,i*10,none⟩),.int .i64 (k:Int),.bool true]) (by simp[results,results318]) rfl ⟨qa1 HB.out _,_,_,true,rfl,(λ_=>⟨i,k,hlt,rfl,rfl,HK.out.1,⟨HK.out.2.1,HBT.out⟩,HK.out.2.2⟩),λh=>by cases h⟩
       |false =>
        have HBT:=hid hb;rw[hb]at tk;clear hb HTK;go_wp2_with fail;go_quiet (fail);go_wp2_with fail;refine bodyPost_ret (v:=.tuple #[.pointer (some ⟨sc,i*10,none⟩),.int .i64 (k:Int),.bool false]) (by simp[results,results318]) rfl ⟨qa1 HB.out _,_,_,false,rfl,(λh=>by cases h),λ_ i' k' hi' hk' hs' h1 h2=>by obtain rfl:i'=i:=(by have:=HI.out;omega);obtain rfl:k'=k:=qmy hs' HK.out.2.2.1 (by have:=HK.out.2.2.2;omega);exact HBT.out⟩
   · have hlti:(S.length:Int)<=(i:Int):=by omega
     go_enter func318,ntmps318;go_wp2_with fail;refine(qfo line w).mono ?_;rintro e w1⟨rfl,rfl⟩;rw[HI.out];go_wp2_with fail;refine TA.out.mono ?_;rintro e w2⟨rfl,rfl⟩;go_wp2_with fail;refine bodyPost_ret (v:=.tuple #[.pointer none,.int .i64 0,.bool false]) (by simp[results,results318]) rfl ⟨Below.refl _ _,_,_,false,rfl,(λh=>by cases h),λ_ i' k' hi' hk' hs' h1 h2=>absurd h1 (by have:=HI.out;omega)⟩
end
section
open Go.RowKit Go.Shelf Go.Sort
instance:Inhabited qa3:=⟨qak⟩
theorem qly{l:List qa3}{t:Nat}(ht:t<l.length*5):(l.flatMap qa3.enc)[t]? =some ((flatK qa3.enc 5 l.toArray)[t]!):=by
 have hi:t/5<l.length:=by omega
 have h:=qb0 qa3.enc_len l (t/5) hi (t%5) (by omega);rw[show t/5*5+t%5=t by omega]at h;rw[h,get_flatK _ _ _ _ (by simpa using ht)];have e:l.toArray[t/5]! =l[t/5]:=by rw[getElem!_pos l.toArray (t/5) (by simpa using hi)];simp
 rw[e,getElem!_pos (l[t/5].enc) (t%5) (by rw[qa3.enc_len];omega),List.getElem?_eq_getElem (by rw[qa3.enc_len];omega)]
theorem qxd(x y:qa3)(W:World):Calls prog 95 #[.agg #[.string x.key,.int .u64 (x.id:Int),.int .u64 (x.ver:Int),.int .i64 x.line,.int .i64 x.cls],.agg #[.string y.key,.int .u64 (y.id:Int),.int .u64 (y.ver:Int),.int .i64 y.line,.int .i64 y.cls]] W λe w'=>e=.returned (.int .i64 (cmpB x.key y.key))/\∃q os',w'=grow (W.drewN q) os':=by
 go_enter func95,ntmps95;go_wp2_with(go_at_call 96;refine(qtj _ _ _).mono ?_;rintro e w'⟨rfl,rfl⟩);go_ret;exact⟨rfl,0,_,by rw[alloc_eq_grow,alloc_eq_grow,grow_grow];rfl⟩
theorem qw4(x y:qa3):ltOf (λx y:qa3=>cmpB x.key y.key) x y=kl x.key y.key:=by
 show decide (cmpB x.key y.key<0)=kl x.key y.key
 rw[qhw];cases h:kl x.key y.key with
 |true=>simp
 |false=>simp only[Bool.false_eq_true,if_false];split <;> simp
theorem qve:SWO (ltOf λx y:qa3=>cmpB x.key y.key) where
 irrefl x:=by rw[qw4,qdh]
 trans x y z h1 h2:=by rw[qw4]at *;exact qeh h1 h2
 ntrans x y z h1 h2:=by
  rw[qw4]at *;cases h:kl x.key z.key with
  |false=>rfl
  |true =>
   rcases qsq y.key x.key with h3|h3|h3
   · have:=qeh h3 h;rw[h2]at this;cases this
   · rw[h3]at h2;rw[h2]at h;cases h
   · rw[h1]at h3;cases h3
def qud(lo:Nat)(A:Option Addr)(c:Nat)(l:List qa3)(w:World)(e:Ending)(w':World):Prop:=
 e=.returned (.tuple #[])/\∃l',l'.Perm l/\l'.Pairwise (λx y=>kl y.key x.key=false)/\Own qa3.enc 85 5 w' lo A c l'/\Only (λj=>some j=qa8 A c) w w'
theorem qjr(l:List qa3)(A:Option Addr)(c lo:Nat)(w:World)(own:Own qa3.enc 85 5 w lo A c l)(hl:l.length<=1000000):Calls prog 94 #[.slice A l.length c,.func (.func 95) #[] #[]] w (qud lo A c l w):=by
 by_cases h0:l.length=0
 · have hn:l=[]:=List.eq_nil_of_length_eq_zero h0
   subst hn;have h:=AnyF.slices_SortFunc_none qA7 A c (.func (.func 95) #[] #[]) w;refine Calls.mono h ?_;rintro e w'⟨rfl,rfl⟩;exact⟨rfl,[],List.Perm.refl _,List.Pairwise.nil,own,Only.refl _ _⟩
 · obtain⟨b,off,cur,rfl,hlo,hh,hs,hc⟩:∃b off cur,A=some ⟨b,off,none⟩/\lo<=b/\w.heap[b]? =some (.cells cur 85 (0,0))/\off+c*5<=cur.size/\∀j (u:Value),(l.flatMap qa3.enc)[j]? =some u->cur[off+j]? =some u:=by
    have hlc:=own.1;rcases own.2.2 with h|h
    · omega
    · exact h
   have hlc:l.length<=c:=own.1;have hrow:qa8 (some (⟨b,off,none⟩:Addr)) c=some b:=by rw[qa8,if_neg (by omega)];rfl
   have hblk:=qa0 hh;have eg:∀args w,(callFunc 95 args).run prog w=.ok (.enter 95 args) w:=enters_of func95 (by kernel_rfl) rfl;have hH:HoldsK qa3.enc 5 w b off l.toArray:=λj hj=>by
    rw[size_flatK]at hj;have hj':j<l.length*5:=by simpa using hj
    refine⟨?_,frozen_of_row w b _ _ _ hh⟩;rw[cell_of_row w b _ _ _ _ hh];exact hc j _ (qly hj')
   have aE:∀w,(isAgg (qh9.t 24)).run prog w=.ok true w:=λw=>by kernel_rfl
   have zE:∀w,(Go.sizeOf (qh9.t 24)).run prog w=.ok 5 w:=λw=>by kernel_rfl
   have h:=AnyQ.slices_SortFunc qA7 5 aE zE qa3.enc qa3.enc_len qa3.enc_one (λx y=>cmpB x.key y.key) qve 95 #[] b off c l.toArray w eg (λm os dk hs x y=>qxd x y _) hH hblk (by simp;omega);have h':Calls prog 94 #[.slice (some ⟨b,off,none⟩) l.length c,.func (.func 95) #[] #[]] w _:=h;refine Calls.mono h' ?_;rintro e w'⟨rfl,d',n,os,hp,hsrt,rfl⟩;have hsz:d'.size=l.length:=by have:=hp.1;simpa using this
   obtain⟨l',rfl⟩:∃l',d'=l'.toArray:=⟨d'.toList,by simp⟩;have hln:l'.length=l.length:=by simpa using hsz
   have hperm:l'.Perm l:=by
    have:=hp.2.2;simp only[List.size_toArray,List.extract_toArray,List.toList_toArray]at this;rw[List.extract_eq_take_drop,List.extract_eq_take_drop]at this;simpa[List.take_of_length_le (Nat.le_of_eq hln)]using this
   have hheap:∀k,k<w.heap.size->(sortWorldK qa3.enc 5 w b off n l'.toArray os).heap[k]? =if k=b then some (.cells (putCells id off (flatK qa3.enc 5 l'.toArray) cur) 85 (0,0))else w.heap[k]? :=λk hk=>by
    show((w.heap.modify b (onCells (putCells id off (flatK qa3.enc 5 l'.toArray))))++os)[k]? =_
    rw[Array.getElem?_append_left (by simpa using hk),Array.getElem?_modify];by_cases hkb:b=k
    · subst hkb
      rw[if_pos rfl,if_pos rfl,hh];rfl
    · rw[if_neg hkb,if_neg (λh=>hkb h.symm)]
   refine⟨rfl,l',hperm,?_,⟨by rw[hln];exact hlc,own.2.1,.inr ⟨b,off,_,rfl,hlo,(hheap b hblk).trans (if_pos rfl),?_,λj u hu=>?_⟩⟩,⟨rfl,rfl,rfl,?_,λj hj hne=>(hheap j hj).trans (if_neg λh=>hne (by rw[hrow,h]))⟩⟩
   · rw[List.pairwise_iff_getElem]
     intro i j hi hj hij;have:=hsrt i j (Nat.zero_le _) hij (by simpa[hln]using hj);rw[qw4,getElem!_pos l'.toArray j (by simpa using hj),getElem!_pos l'.toArray i (by simpa using hi)]at this;simpa using this
   · rw[putCells,Array.size_mapIdx]
     exact hs
   · have hjl:j<l'.length*5:=by
      have:=(List.getElem?_eq_some_iff.1 hu).1;rwa [qao qa3.enc_len]at this
     rw[qly hjl]at hu;have hjc:off+j<cur.size:=by omega
     rw[putCells,Array.getElem?_mapIdx,Array.getElem?_eq_getElem hjc,Option.map_some,if_pos ⟨by omega,by rw[size_flatK];simp;omega⟩,show off+j-off=j by omega];exact hu
   · show w.heap.size<=(w.heap.modify b _++os).size
     simp
end
section
open Go.RowKit
def qoi(N k:Nat):List Value:=[.map (if 0<k then some (N+1+0)else none),.map (if 1<k then some (N+1+1)else none),.map (if 2<k then some (N+1+2)else none),.map (if 3<k then some (N+1+3)else none),.map (if 4<k then some (N+1+4)else none),.map (if 5<k then some (N+1+5)else none),.map (if 6<k then some (N+1+6)else none),.map (if 7<k then some (N+1+7)else none)]
theorem qms{N k:Nat}(hk:k<8):(qoi N k).set k (.map (some (N+1+k)))=qoi N (k+1):=by
 rcases(by omega:k=0\/k=1\/k=2\/k=3\/k=4\/k=5\/k=6\/k=7)with rfl|rfl|rfl|rfl|rfl|rfl|rfl|rfl <;> rfl
theorem qin{N k:Nat}(hk:k<8):(qoi N k)[k]? =some (.map none):=by
 rcases(by omega:k=0\/k=1\/k=2\/k=3\/k=4\/k=5\/k=6\/k=7)with rfl|rfl|rfl|rfl|rfl|rfl|rfl|rfl <;> rfl
structure qBa(N k:Nat)(w wr:World):Prop where
 row:wr.heap[N]? =some (.cells (qoi N k).toArray 198 (0,0))
 maps:∀i,i<k->wr.heap[N+1+i]? =some (.map #[] 0)
 size:wr.heap.size=N+1+k
 below:Below N w wr
theorem qse(W:World):(Instr.makeMap 195 none).run prog W=.ok (.map (some W.heap.size)) (W.alloc (.map #[] 0)):=by kernel_rfl
theorem qzf(W:World)(m:Nat):(binOp .eql 195 (.map (some m)) (.map none)).run prog W=.ok (.bool false) W:=by kernel_rfl
theorem qps(w:World):Calls prog 74 #[] w λe w'=>e=.returned (.pointer (some ⟨w.heap.size,0,none⟩))/\qbk (λ_=>True) w' w.heap.size (λi=>w.heap.size+1+i) (λ_=>[])/\Below w.heap.size w w':=by
 go_enter func74,ntmps74;go_wp2_with fail;go_loopw [2,5] (λ_ v5 wr=>∃k:Nat,k<=8/\v5=.int .i64 k/\qBa w.heap.size k w wr) (λ_ v5 _=>8-(intOf v5).toNat)
 case atStart=>exact⟨0,by omega,rfl,⟨(qa2 _ _ _).trans (if_pos rfl),λi h=>absurd h (by omega),by simp,(Below.refl _ _).alloc (Nat.le_refl _) _⟩⟩
 case round =>
  obtain⟨k,hk,rfl,hN⟩:=hrel;by_cases hlt:k<8
  · have hki:(k:Int)<8:=by omega
    have c0:=cell_of_row wr _ k _ _ _ hN.row;rw[List.getElem?_toArray,qin hlt]at c0;have f0:=frozen_of_row wr _ k _ _ hN.row;have hlw:=qa0 hN.row;have HN:=hid hN;have MM:=qse wr;have hsz:=hN.size;obtain⟨w1,hw1⟩:∃w1,w1=wr.alloc (.map #[] 0):=⟨_,rfl⟩;rw[<-hw1]at MM;have hs1:w1.heap.size=wr.heap.size+1:=by rw[hw1];simp
    have ho1:∀j,j<wr.heap.size->w1.heap[j]? =wr.heap[j]? :=λj hj=>by rw[hw1];exact Below.heap_alloc _ _ _ hj
    have hm1:w1.heap[wr.heap.size]? =some (.map #[] 0):=by rw[hw1,qa2,if_pos rfl]
    have hb1:Below w.heap.size w w1:=by rw[hw1];exact hN.below.alloc (by omega) _
    have R1:=(ho1 _ hlw).trans HN.out.row;have c1:=cell_of_row w1 _ k _ _ _ R1;rw[List.getElem?_toArray,qin hlt]at c1;have f1:=frozen_of_row w1 _ k _ _ R1;have HH:=hid (And.intro ho1 (And.intro hm1 hb1));have HR1:=hid R1;clear hN hw1 ho1 hm1 hb1 R1 c0 f0;go_wp2_with fail;refine⟨⟨k+1,by omega,by go_num,⟨?_,λi hi=>?_,?_,?_⟩⟩,by simp[intOf];omega⟩
    · have:=heap_setCell_same w1 w.heap.size k _ _ (.map (some (w.heap.size+1+k))) HR1.out
      rw[this,<-qms hlt];simp
    · rw[Below.heap_setCell _ _ _ _ (by simp;omega)]
      by_cases hik:i=k
      · subst hik
        rw[<-hsz];exact HH.out.2.1
      · rw[HH.out.1 _ (by omega)]
        exact HN.out.maps i (by omega)
    · simp;omega
    · exact HH.out.2.2.setCell (p:=⟨w.heap.size,k,none⟩) (Nat.le_refl _) _
  · obtain rfl:k=8:=by omega
    have HN:=hid hN;clear hN;go_wp2_with fail;go_ret;refine⟨rfl,⟨HN.out.row,λi hi=>⟨#[],0,HN.out.maps i hi,MpL.nil⟩,λi j _ _ h=>by omega,λi _ x hx=>by simp at hx,trivial,λ_ _=>trivial⟩,HN.out.below⟩
def updB(B:Nat->List qa3)(k:Nat)(L:List qa3):Nat->List qa3:=λj=>if j=k then L else B j
section
variable {F:Nat->Prop}{w w':World}{tb:Nat}{mb:Nat->Nat}{B:Nat->List qa3}
theorem qoq{L:List qa3}{x y:qa3}(h:y∈setM L x):y=x\/y∈L:=by
 unfold setM at h;split at h
 · rcases List.mem_or_eq_of_mem_set h with h|h
   · exact .inr h
   · exact .inl h
 · rcases List.mem_append.1 h with h|h
   · exact .inr h
   · exact .inl (by simpa using h)
theorem qor{L:List qa3}{key:ByteArray}{y:qa3}(h:y∈delM L key):y∈L:=by
 unfold delM at h;split at h
 · exact List.mem_of_mem_eraseIdx h
 · exact h
theorem qbk.upd(h:qbk F w tb mb B){k:Nat}(hk:k<8){L:List qa3}(hm:MapL w' (mb k) L)(hs:∀j,j<w.heap.size->j≠mb k->w'.heap[j]? =w.heap[j]?)(hL:∀x∈L,bucket x.key=k/\x.key.size<=1000000):qbk F w' tb mb (updB B k L):=by
 have hne:tb≠mb k:=λh0=>by
  obtain⟨es,clock,h1,_⟩:=h.map k hk;rw[<-h0,h.box]at h1;cases h1
 refine⟨(hs tb h.lt hne).trans h.box,λi hi=>?_,h.inj,λi hi x hx=>?_,h.own⟩
 · unfold updB
   by_cases hik:i=k
   · subst hik;rw[if_pos rfl];exact hm
   · rw[if_neg hik]
     exact(h.map i hi).same (hs _ (h.map i hi).lt λh0=>hik (h.inj i k hi hk h0))
 · unfold updB at hx
   by_cases hik:i=k
   · subst hik;rw[if_pos rfl]at hx;exact hL x hx
   · rw[if_neg hik]at hx;exact h.bkt i hi x hx
def qpf(F:Nat->Prop)(tb:Nat)(mb:Nat->Nat)(B:Nat->List qa3)(k:Nat)(v:Value)(w:World)(e:Ending)(w':World):Prop:=e=.returned v/\qbk F w' tb mb B/\Only (λj=>j=mb k) w w'
theorem qpr(h:qbk F w tb mb B)(x:qa3)(hk:x.key.size<=1000000):Calls prog 280 #[.pointer (some ⟨tb,0,none⟩),x.val] w (qpf F tb mb (updB B (bucket x.key) (setM (B (bucket x.key)) x)) (bucket x.key) (.bool (qd0 (B (bucket x.key)) x.key).isSome) w):=by
 have H:=hid h;have HK:=hid hk;have hb8:=qb6 x.key;clear h hk;obtain⟨k,hk⟩:∃k,k=bucket x.key:=⟨_,rfl⟩;rw[<-hk]at hb8 ⊢;have HKK:=hid hk;clear hk;obtain⟨y,hy⟩:∃y,y=(qd0 (B k) x.key).getD qak:=⟨_,rfl⟩;obtain⟨ok,hok⟩:∃ok,ok=(qd0 (B k) x.key).isSome:=⟨_,rfl⟩;have HYV:=hid (show y.val=.agg #[.string y.key,.int .u64 (y.id:Int),.int .u64 (y.ver:Int),.int .i64 y.line,.int .i64 y.cls]from rfl);have HXV:=hid (show x.val=.agg #[.string x.key,.int .u64 (x.id:Int),.int .u64 (x.ver:Int),.int .i64 x.line,.int .i64 x.cls]from rfl);rw[<-hok];rw[HXV.out];go_enter func280,ntmps280;go_upto_region 1 with fail;generalize hw1:World.alloc w _=w1;have b1:Below w.heap.size w w1:=by rw[<-hw1];exact(Below.refl _ _).alloc (Nat.le_refl _) _
 have R1:w1.heap[w.heap.size]? =some (.cells x.enc.toArray 85 (0,0)):=by rw[<-hw1];exact(qa2 _ _ _).trans (if_pos rfl)
 have HR1:=hid R1;have HB1:=hid b1;have H1:=hid (H.out.below b1);have hl1:=qa0 R1;have r0:=cell_of_row w1 _ 0 _ _ _ R1;have r1:=cell_of_row w1 _ 1 _ _ _ R1;have r2:=cell_of_row w1 _ 2 _ _ _ R1;have r3:=cell_of_row w1 _ 3 _ _ _ R1;have r4:=cell_of_row w1 _ 4 _ _ _ R1;simp only[qa3.enc,List.getElem?_toArray,List.getElem?_cons_zero,List.getElem?_cons_succ]at r0 r1 r2 r3 r4;clear hw1 R1 b1;go_wp2_with fail;refine(qh4 H1.out x.key HK.out).mono ?_;rintro e w2⟨rfl,b2⟩;rw[<-HKK.out];have H2:=hid (H1.out.below b2);have HB2:=hid (HB1.out.trans (b2.mono HB1.out.size));have R2:=(b2.block _ hl1).trans HR1.out;have lk:=qk6 (H2.out.map _ hb8) x.key;rw[<-hy,<-hok,HYV.out]at lk;have q0:=cell_of_row w2 _ 0 _ _ _ R2;have q1:=cell_of_row w2 _ 1 _ _ _ R2;have q2:=cell_of_row w2 _ 2 _ _ _ R2;have q3:=cell_of_row w2 _ 3 _ _ _ R2;have q4:=cell_of_row w2 _ 4 _ _ _ R2;simp only[qa3.enc,List.getElem?_toArray,List.getElem?_cons_zero,List.getElem?_cons_succ]at q0 q1 q2 q3 q4;have hl2:=qa0 R2;have HR2:=hid R2;have HY:=hid hy;have HOKK:=hid hok;clear R2 b2 H1 hy hok r0 r1 r2 r3 r4;have b3:Below w2.heap.size w2 (w2.alloc (.cells #[.string y.key,.int .u64 (y.id:Int),.int .u64 (y.ver:Int),.int .i64 y.line,.int .i64 y.cls] 85)):=(Below.refl _ _).alloc (Nat.le_refl _) _;have H3:=hid (H2.out.below b3);have HB3:=hid (HB2.out.trans (b3.mono HB2.out.size));obtain⟨w4,hput,hmap,hgr,hsz⟩:=qA8 (H3.out.map _ hb8) x;rw[HXV.out]at hput;have HM:=hid hmap;have HG:=hid hgr;have HSZ:=hid hsz;have EQ:=λW:World=>qzf W (mb k)
 clear b3 hmap hgr hsz;go_wp2_with fail;go_ret;have hs:=HSZ.out;refine⟨rfl,H3.out.upd hb8 HM.out (λj hj hne=>HG.out.block j hj (by simpa using hne)) λz hz=>?_,⟨HG.out.os.trans HB3.out.os,HG.out.tape.trans HB3.out.tape,HG.out.output.trans HB3.out.output,by have:=HB3.out.size;omega,λj hj hne=>(HG.out.block j (by have:=HB3.out.size;omega) (by simpa using hne)).trans (HB3.out.block j hj)⟩⟩;rcases qoq hz with rfl|hz
 · exact⟨HKK.out.symm,HK.out⟩
 · exact H3.out.bkt k hb8 z hz
theorem qmt(h:qbk F w tb mb B)(key:ByteArray)(hk:key.size<=1000000):Calls prog 344 #[.pointer (some ⟨tb,0,none⟩),.string key] w (qpf F tb mb (updB B (bucket key) (delM (B (bucket key)) key)) (bucket key) (.tuple #[((qd0 (B (bucket key)) key).getD qak).val,.bool (qd0 (B (bucket key)) key).isSome]) w):=by
 have H:=hid h;have HK:=hid hk;have hb8:=qb6 key;clear h hk;obtain⟨k,hk⟩:∃k,k=bucket key:=⟨_,rfl⟩;rw[<-hk]at hb8 ⊢;have HKK:=hid hk;clear hk;obtain⟨y,hy⟩:∃y,y=(qd0 (B k) key).getD qak:=⟨_,rfl⟩;obtain⟨ok,hok⟩:∃ok,ok=(qd0 (B k) key).isSome:=⟨_,rfl⟩;have HYV:=hid (show y.val=.agg #[.string y.key,.int .u64 (y.id:Int),.int .u64 (y.ver:Int),.int .i64 y.line,.int .i64 y.cls]from rfl);rw[<-hok,<-hy];go_enter func344,ntmps344;go_upto_region 1 with fail;generalize hw1:World.alloc w _=w1;have b1:Below w.heap.size w w1:=by rw[<-hw1];exact(Below.refl _ _).alloc (Nat.le_refl _) _
 have R1:w1.heap[w.heap.size]? =some (.cells qak.enc.toArray 85 (0,0)):=by rw[<-hw1];exact(qa2 _ _ _).trans (if_pos rfl)
 have HR1:=hid R1;have HB1:=hid b1;have H1:=hid (H.out.below b1);have hl1:=qa0 R1;clear hw1 R1 b1;go_wp2_with fail;refine(qh4 H1.out key HK.out).mono ?_;rintro e w2⟨rfl,b2⟩;rw[<-HKK.out];have H2:=hid (H1.out.below b2);have HB2:=hid (HB1.out.trans (b2.mono HB1.out.size));have R2:=(b2.block _ hl1).trans HR1.out;have lk:=qk6 (H2.out.map _ hb8) key;rw[<-hy,<-hok,HYV.out]at lk;have hl2:=qa0 R2;have HR2:=hid R2;clear R2 b2 H1 hy hok;have b3:Below w2.heap.size w2 (w2.alloc (.cells #[.string y.key,.int .u64 (y.id:Int),.int .u64 (y.ver:Int),.int .i64 y.line,.int .i64 y.cls] 85)):=(Below.refl _ _).alloc (Nat.le_refl _) _;have H3:=hid (H2.out.below b3);have HB3:=hid (HB2.out.trans (b3.mono HB2.out.size));have mk2:mb k<w2.heap.size:=(H2.out.map _ hb8).lt;have mkw:mb k<w.heap.size:=(H.out.map _ hb8).lt;obtain⟨w4,hput,hmap,hgr,hsz⟩:=qB1 (H3.out.map _ hb8) key 0;have RY4:w4.heap[w2.heap.size]? =some (.cells y.enc.toArray 85 (0,0)):=(hgr.block _ (by simp) (by simp;omega)).trans ((qa2 _ _ _).trans (if_pos rfl));have R4:w4.heap[w.heap.size]? =some (.cells qak.enc.toArray 85 (0,0)):=(hgr.block _ (by simp;omega) (by simp;omega)).trans ((Below.heap_alloc _ _ _ hl2).trans HR2.out);have HM:=hid hmap;have HG:=hid hgr;have HSZ:=hid hsz;have HR4:=hid R4;have q0:=cell_of_row w4 _ 0 _ _ _ R4;have q1:=cell_of_row w4 _ 1 _ _ _ R4;have q2:=cell_of_row w4 _ 2 _ _ _ R4;have q3:=cell_of_row w4 _ 3 _ _ _ R4;have q4:=cell_of_row w4 _ 4 _ _ _ R4;simp only[qa3.enc,List.getElem?_toArray,List.getElem?_cons_zero,List.getElem?_cons_succ]at q0 q1 q2 q3 q4;have f0:=frozen_of_row w4 _ 0 _ _ R4;have f1:=frozen_of_row w4 _ 1 _ _ R4;have f2:=frozen_of_row w4 _ 2 _ _ R4;have f3:=frozen_of_row w4 _ 3 _ _ R4;have f4:=frozen_of_row w4 _ 4 _ _ R4;have r0:=cell_of_row w4 _ 0 _ _ _ RY4;have r1:=cell_of_row w4 _ 1 _ _ _ RY4;have r2:=cell_of_row w4 _ 2 _ _ _ RY4;have r3:=cell_of_row w4 _ 3 _ _ _ RY4;have r4:=cell_of_row w4 _ 4 _ _ _ RY4;simp only[qa3.enc,List.getElem?_toArray,List.getElem?_cons_zero,List.getElem?_cons_succ]at r0 r1 r2 r3 r4;have hl4:=qa0 R4;have hly4:=qa0 RY4;clear b3 hmap hgr hsz R4 RY4;have HO8:Hid (∀j,j≠w.heap.size->(w4.setCells w.heap.size 0 y.enc).heap[j]? =w4.heap[j]?):=hid λj hj=>qaa _ _ _ _ j hj
 go_wp2_with fail;have hall:∀j,j<w.heap.size->j≠mb k->(w4.setCells w.heap.size 0 y.enc).heap[j]? =w.heap[j]? :=λj hj hne =>
  (HO8.out j (by omega)).trans ((HG.out.block j (by have:=HB2.out.size;simp;omega) (by simpa using hne)).trans ((Below.heap_alloc _ _ _ (by have:=HB2.out.size;omega)).trans (HB2.out.block j hj)))
 have hss:=HSZ.out;have hb2:=HB2.out.size;simp only[World.size_alloc]at hss;have hsm:=HO8;refine bodyPost_ret (v:=.tuple #[y.val,.bool ok]) (qdq results344 _ _ w.heap.size y _ (by simp) (by simp) (box5 HR4.out)) rfl ⟨rfl,?_,?_⟩
 · exact H.out.upd hb8 (HM.out.same (HO8.out _ (by omega))) hall λz hz=>H.out.bkt k hb8 z (qor hz)
 · obtain⟨h1,h2,h3,h4⟩:=qam w.heap.size y.enc 0 w4
   exact⟨h1.trans (HG.out.os.trans HB3.out.os),h2.trans (HG.out.tape.trans HB3.out.tape),h3.trans (HG.out.output.trans HB3.out.output),by show w.heap.size<=(w4.setCells w.heap.size 0 y.enc).heap.size;omega,hall⟩
end
end
end Go.Proofs.YtecikkjbnkhhkaaGreat
