/- A part of the walk. -/
import Derived.Test.YtecikkjbnkhhkaaGreatP03
import Derived.Lib.Bytealg
import Derived.WalkLawsBesides
import Derived.WalkSpells
import Derived.StillTailTactics
namespace Go.Proofs.YtecikkjbnkhhkaaGreat
open _root_.Go.Proofs.Tryz
set_option maxHeartbeats 2000000
set_option maxRecDepth 100000
section
open Go.RowKit
def cmpB(a b:ByteArray):Int:=Lib.compareBytes a.data.toList b.data.toList
theorem qny(a b:ByteArray)(w:World):Calls prog 127 #[.string a,.string b] w λe w'=>e=.returned (.int .i64 (cmpB a b))/\w=w':=by
 go_enter func127,ntmps127;go_wp2;rw[run_callFunc_extern func172 (by kernel_rfl) (by kernel_rfl) (by kernel_rfl) (e:=Extern.BytealgCompare.compare) (by kernel_rfl),Lib.run_compareString];simp only[Result.andThen];rw[Oper.upon_value];go_wp2;go_ret;exact⟨rfl,rfl⟩
theorem qtj(a b:ByteArray)(w:World):Calls prog 96 #[.string a,.string b] w λe w'=>e=.returned (.int .i64 (cmpB a b))/\w=w':=by
 go_enter func96,ntmps96;go_wp2_with(go_at_call 127;refine(qny a b _).mono ?_;rintro e w'⟨rfl,rfl⟩);go_ret;exact⟨rfl,rfl⟩
theorem qm8:∀x:List UInt8,Op.bytesLess x x=false
 | []=>rfl
 |a::x=>by simp[Op.bytesLess,qm8 x]
theorem qp8:∀x y z:List UInt8,Op.bytesLess x y=true->Op.bytesLess y z=true->Op.bytesLess x z=true
 |_,[],[],_,h2=>by simp[Op.bytesLess]at h2
 |_,_::_,[],_,h2=>by simp[Op.bytesLess]at h2
 | [],_,_::_,_,_=>by simp[Op.bytesLess]
 |_::_,[],_::_,h1,_=>by simp[Op.bytesLess]at h1
 |a::x,b::y,c::z,h1,h2=>by
  simp only[Op.bytesLess,Bool.or_eq_true,decide_eq_true_eq,Bool.and_eq_true,beq_iff_eq]at h1 h2 ⊢
  rcases h1 with h1|⟨rfl,h1⟩ <;> rcases h2 with h2|⟨rfl,h2⟩
  · exact .inl (UInt8.lt_trans h1 h2)
  · exact .inl h1
  · exact .inl h2
  · exact .inr ⟨rfl,qp8 x y z h1 h2⟩
theorem qp9:∀x y:List UInt8,Op.bytesLess x y=false->Op.bytesLess y x=false->x=y
 | [],[],_,_=>rfl
 | [],_::_,h,_=>by simp[Op.bytesLess]at h
 |_::_,[],_,h=>by simp[Op.bytesLess]at h
 |a::x,b::y,h1,h2=>by
  simp only[Op.bytesLess,Bool.or_eq_false_iff,decide_eq_false_iff_not,Bool.and_eq_false_iff,beq_eq_false_iff_ne]at h1 h2
  have e:a=b:=UInt8.le_antisymm (UInt8.not_lt.1 h2.1) (UInt8.not_lt.1 h1.1)
  subst e
  rw[qp9 x y (by simpa using h1.2) (by simpa using h2.2)]
theorem qy9:∀x y:List UInt8,Lib.compareBytes x y=if Op.bytesLess x y=true then -1 else if Op.bytesLess y x=true then 1 else 0
 | [],[]=>rfl
 | [],_::_=>rfl
 |_::_,[]=>rfl
 |a::x,b::y=>by
  unfold Lib.compareBytes
  simp only[Op.bytesLess,Bool.or_eq_true,decide_eq_true_eq,Bool.and_eq_true,beq_iff_eq]
  by_cases h1:a<b
  · simp[h1]
  · by_cases h2:b<a
    · have:a≠b:=λe=>by subst e;exact UInt8.lt_irrefl _ h2
      simp[h1,h2,this]
    · have e:a=b:=UInt8.le_antisymm (UInt8.not_lt.1 h2) (UInt8.not_lt.1 h1)
      subst e
      simp[h1,qy9 x y]
theorem qbu{a b:ByteArray}(h:a.toList=b.toList):a=b:=by
 rw[Lib.toList_data,Lib.toList_data]at h;exact ByteArray.ext (Array.toList_inj.1 h)
def kl(a b:ByteArray):Bool:=Op.bytesLess a.toList b.toList
theorem qdh(a:ByteArray):kl a a=false:=qm8 _
theorem qeh{a b c:ByteArray}(h:kl a b=true)(k:kl b c=true):kl a c=true:=qp8 _ _ _ h k
theorem qp0{a b:ByteArray}(h:kl a b=false)(k:kl b a=false):a=b:=qbu (qp9 _ _ h k)
theorem qei{a b:ByteArray}(h:kl a b=true):kl b a=false:=by
 cases e:kl b a with
 |false=>rfl
 |true=>have:=qeh h e;rw[qdh]at this;cases this
theorem qsr{a b:ByteArray}(h:kl a b=true):a≠b:=λe=>by subst e;rw[qdh]at h;cases h
theorem qhw(a b:ByteArray):cmpB a b=if kl a b=true then -1 else if kl b a=true then 1 else 0:=by
 unfold cmpB kl;rw[qy9,Lib.toList_data,Lib.toList_data]
end
section
open Go.RowKit
structure qa3 where
 key:ByteArray
 id:Nat
 ver:Nat
 line:Int
 cls:Int
 deriving DecidableEq
def qa3.enc(x:qa3):List Value:=[.string x.key,.int .u64 (x.id:Int),.int .u64 (x.ver:Int),.int .i64 x.line,.int .i64 x.cls]
theorem qa3.enc_len(x:qa3):x.enc.length=5:=rfl
theorem qa3.enc_one(x:qa3):∀u∈x.enc,u.oneCell'=true:=by
 intro u hu;simp only[qa3.enc,List.mem_cons,List.not_mem_nil,or_false]at hu;rcases hu with rfl|rfl|rfl|rfl|rfl <;> rfl
def qa3.val(x:qa3):Value:=.agg x.enc.toArray
def qak:qa3:=⟨ByteArray.empty,0,0,0,0⟩
structure qbo(w:World)(lo p:Nat)(A:Option Addr)(c:Nat)(L:List qa3)(at' n:Nat):Prop where
 box:w.heap[p]? =some (.cells #[.slice A L.length c,.int .i64 (at':Int),.int .i64 (n:Int)] 210 (0,0))
 rows:Own qa3.enc 85 5 w lo A c L
 lo:lo<=p
 fit:n<=L.length/\(L.length=0\/at'<L.length)
 nil:L=[]->A=none/\c=0/\at'=0
theorem qnq(w:World):Calls prog 76 #[] w λe w'=>e=.returned (.pointer (some ⟨w.heap.size,0,none⟩))/\qbo w' w.heap.size w.heap.size none 0 [] 0 0/\Below w.heap.size w w':=by
 go_enter func76,ntmps76;go_wp2_with fail;go_ret;exact⟨rfl,⟨(qa2 _ _ _).trans (if_pos rfl),Own.none_,Nat.le_refl _,by simp,λ_=>⟨rfl,rfl,rfl⟩⟩,(Below.refl _ _).alloc (Nat.le_refl _) _⟩
theorem Arr.link{w:World}{B:Nat}{A:Option Addr}{l:List qa3}(h:Arr qa3.enc 5 w B A l){i:Nat}(hi:i<l.length):∃b off,A=some ⟨b,off,none⟩/\b<B/\w.cell? ⟨b,off+i*5,none⟩=some (.string l[i].key)/\w.cell? ⟨b,off+i*5+1,none⟩=some (.int .u64 (l[i].id:Int))/\w.cell? ⟨b,off+i*5+2,none⟩=some (.int .u64 (l[i].ver:Int))/\w.cell? ⟨b,off+i*5+3,none⟩=some (.int .i64 l[i].line)/\w.cell? ⟨b,off+i*5+4,none⟩=some (.int .i64 l[i].cls):=by
 rcases h with rfl|⟨b,off,rfl,hB,hc⟩
 · simp at hi
 · exact⟨b,off,rfl,hB,by simpa using hc i hi 0 _ rfl,hc i hi 1 _ rfl,hc i hi 2 _ rfl,hc i hi 3 _ rfl,hc i hi 4 _ rfl⟩
def qed(x:qa3)(ok:Bool)(w:World)(e:Ending)(w':World):Prop:=e=.returned (.tuple #[x.val,.bool ok])/\Below w.heap.size w w'
theorem qn4(w:World)(lo p:Nat)(A:Option Addr)(c:Nat)(L:List qa3)(at':Nat)(h:qbo w lo p A c L at' 0):Calls prog 311 #[.pointer (some ⟨p,0,none⟩)] w (qed qak false w):=by
 have hp:=qa0 h.box;have p2:=cell_of_row w p 2 _ _ _ h.box;clear h;go_enter func311,ntmps311;go_wp2_with fail;refine bodyPost_ret (v:=.tuple #[qak.val,.bool false]) (by simp[results,results311,go_sem,qak,qa3.val,qa3.enc];rfl) rfl ⟨rfl,(Below.refl _ _).alloc (Nat.le_refl _) _⟩
theorem qgf(w:World)(lo p:Nat)(A:Option Addr)(c:Nat)(L:List qa3)(at' n:Nat)(h:qbo w lo p A c L at' n)(hn:¬n=0)(ha:at'<L.length):Calls prog 311 #[.pointer (some ⟨p,0,none⟩)] w (qed L[at'] true w):=by
 have hp:=qa0 h.box;have p0:=cell_of_row w p 0 _ _ _ h.box;have p1:=cell_of_row w p 1 _ _ _ h.box;have p2:=cell_of_row w p 2 _ _ _ h.box;obtain⟨b,off,rfl,hB,c0,c1,c2,c3,c4⟩:=(h.rows.arr qa3.enc_len).link ha;have hne:((n:Int)==0)=false:=by rw[beq_eq_false_iff_ne];omega
 have hai:(at':Int)<(L.length:Int):=by omega
 have HX:=hid (show L[at'].val=.agg #[.string L[at'].key,.int .u64 (L[at'].id:Int),.int .u64 (L[at'].ver:Int),.int .i64 L[at'].line,.int .i64 L[at'].cls]from rfl);clear h;go_enter func311,ntmps311;go_wp2_with fail;go_region;all_goals
  go_wp2_with fail;refine bodyPost_ret (v:=.tuple #[L[at'].val,.bool true]) (by rw[HX.out];simp[results,results311,go_sem]) rfl ⟨rfl,by first|exact((Below.refl _ _).alloc (Nat.le_refl _) _).drew|exact(Below.refl _ _).drew.alloc (Nat.le_refl _) _⟩
end
section
open Go.RowKit
structure EntC where
 line:Int
 cls:Int
 r:Nat
 d:Nat
 anti:Int
def EntC.enc(x:EntC):List Value:=[.int .i64 x.line,.int .i64 x.cls,.int .u64 (x.r:Int),.int .u64 (x.d:Int),.int .i64 x.anti]
theorem EntC.enc_len(x:EntC):x.enc.length=5:=rfl
theorem EntC.enc_one(x:EntC):∀u∈x.enc,u.oneCell'=true:=by
 intro u hu;simp only[EntC.enc,List.mem_cons,List.not_mem_nil,or_false]at hu;rcases hu with rfl|rfl|rfl|rfl|rfl <;> rfl
def EntC.val(x:EntC):Value:=.agg x.enc.toArray
def mayE(x:EntC):Bool:=decide (2<=x.line)&&decide (x.line<258)&&decide (0<qa9 x.cls)&&decide (-1<=x.anti)&&decide (x.anti<258)
theorem qvx(x:EntC)(w:World):Calls prog 319 #[x.val] w λe w'=>e=.returned (.bool (mayE x))/\Below w.heap.size w w':=by
 obtain⟨line,cls,r,d,anti⟩:=x;unfold EntC.val EntC.enc;by_cases h1:2<=line
 · by_cases h2:line<258
   · by_cases h3:0<qa9 cls
     · have h3i:(0:Int)<(qa9 cls:Int):=by omega
       by_cases h4: -1<=anti
       · by_cases h5:anti<258
         · have e:mayE ⟨line,cls,r,d,anti⟩=true:=by simp[mayE,h1,h2,h3,h4,h5]
           rw[e];go_enter func319,ntmps319;go_wp2_with fail;refine(qaw cls _).mono ?_;rintro e w1⟨rfl,rfl⟩;go_wp2_with fail;go_ret;exact⟨rfl,(Below.refl _ _).alloc (Nat.le_refl _) _⟩
         · have e:mayE ⟨line,cls,r,d,anti⟩=false:=by simp[mayE,h5]
           have h5':258<=anti:=by omega
           rw[e];go_enter func319,ntmps319;go_wp2_with fail;refine(qaw cls _).mono ?_;rintro e w1⟨rfl,rfl⟩;go_wp2_with fail;go_ret;exact⟨by show Ending.returned (Value.bool (decide (anti<258)))=_;rw[decide_eq_false (by omega)],(Below.refl _ _).alloc (Nat.le_refl _) _⟩
       · have e:mayE ⟨line,cls,r,d,anti⟩=false:=by simp[mayE,h4]
         have h4':anti < -1:=by omega
         rw[e];go_enter func319,ntmps319;go_wp2_with fail;refine(qaw cls _).mono ?_;rintro e w1⟨rfl,rfl⟩;go_wp2_with fail;go_ret;exact⟨rfl,(Below.refl _ _).alloc (Nat.le_refl _) _⟩
     · have e:mayE ⟨line,cls,r,d,anti⟩=false:=by simp[mayE,h3]
       have h30:qa9 cls=0:=by omega
       rw[e];go_enter func319,ntmps319;go_wp2_with fail;refine(qaw cls _).mono ?_;rintro e w1⟨rfl,rfl⟩;rw[h30];go_wp2_with fail;go_ret;exact⟨rfl,(Below.refl _ _).alloc (Nat.le_refl _) _⟩
   · have e:mayE ⟨line,cls,r,d,anti⟩=false:=by simp[mayE,h2]
     have h2':258<=line:=by omega
     rw[e];go_enter func319,ntmps319;go_wp2_with fail;go_ret;exact⟨rfl,(Below.refl _ _).alloc (Nat.le_refl _) _⟩
 · have e:mayE ⟨line,cls,r,d,anti⟩=false:=by simp[mayE,h1]
   have h1':line<2:=by omega
   rw[e];go_enter func319,ntmps319;go_wp2_with fail;go_ret;exact⟨rfl,(Below.refl _ _).alloc (Nat.le_refl _) _⟩
structure qfi(w:World)(lo p:Nat)(A:Option Addr)(c:Nat)(l:List EntC):Prop where
 box:w.heap[p]? =some (.cells #[.slice A l.length c] 226 (0,0))
 rows:Own EntC.enc 334 5 w lo A c l
 lo:lo<=p
theorem qr4(w:World):Calls prog 73 #[] w λe w'=>e=.returned (.pointer (some ⟨w.heap.size,0,none⟩))/\qfi w' w.heap.size w.heap.size none 0 []/\Below w.heap.size w w':=by
 go_enter func73,ntmps73;go_wp2_with fail;go_ret;exact⟨rfl,⟨(qa2 _ _ _).trans (if_pos rfl),Own.none_,Nat.le_refl _⟩,(Below.refl _ _).alloc (Nat.le_refl _) _⟩
theorem qj2:(prog.info? 334).map (λi=>(i.zero,i.size,i.bytes))=some (some (.agg #[.int .i64 0,.int .i64 0,.int .u64 0,.int .u64 0,.int .i64 0]),5,40):=by kernel_rfl
theorem qu1{ops:Array Oper}{rest:List Oper}{o:Oper}{a:Act}{Q:Exit->Act->World->Prop}(w:World)(hgd:o.guard=none)(s x:Operand)
 (ho:o.op=.call {callee:=.builtin .append,args:=#[s,x],argTypes:=#[224,224]}) {lo:Nat} {A:Option Addr} {c:Nat} {l:List EntC} (hs:a.eval s=.slice A l.length c) (own:Own EntC.enc 334 5 w lo A c l)
 {B:Nat} {A2:Option Addr} {m:List EntC} (c2:Nat) (hx:a.eval x=.slice A2 m.length c2) (arr:Arr EntC.enc 5 w B A2 m) (hb:l.length+m.length<=1000000) (hlo:lo<=w.heap.size)
 (h:∀A' c' w',Own EntC.enc 334 5 w' lo A' c' (l++m)->w.grownBy w' (qa8 A c)->(A'=A/\c'=c\/∃g,A'=some ⟨g,0,none⟩/\w.heap.size<=g)->wpList prog ops Q rest (a.put o.dst (.slice A' (l.length+m.length) c')) w'):
 wpList prog ops Q (o::rest) a w:=by
 obtain⟨i0,hi,hz0,hz1,hz2⟩:=info_parts qj2;exact qar w hgd s x 224 ho i0 _ 40 underlying224 hi hz0 hz1 hz2 rfl (by decide) EntC.enc_len EntC.enc_one hs own c2 hx arr (by unfold maxLen;omega) (by omega) hlo h
theorem qwv(l:List EntC)(A:Option Addr)(c:Nat)(w:World)(hA:Arr EntC.enc 5 w w.heap.size A l)(hb:l.length<=1000000):
 Calls prog 383 #[.slice A l.length c] w λe w'=>∃A' c',e=.returned (.slice A' l.length c')/\Own EntC.enc 334 5 w' w.heap.size A' c' l/\Below w.heap.size w w':=by
 have HB:=hid hb;clear hb;have hnil:=λW:World=>Lib.run_eql_slice_nil (P:=prog) W 224 334 A l.length c 0 0 underlying224
 cases A with
 |none =>
  go_enter func383,ntmps383;go_wp2;go_ret;have hl:l=[]:=by
   rcases hA with h|⟨b,off,h,_⟩
   · exact h
   · cases h
  subst hl;exact⟨none,0,rfl,Own.none_,Below.refl _ _⟩
 |some a =>
  go_enter func383,ntmps383;go_wp2_with(at_builtin;refine qu1 (l:=[]) (m:=l) _ rfl (.tmp 5) (.tmp 6) rfl rfl (Own.zero (lo:=w.heap.size)) c rfl (hA.below ((Below.refl _ w).alloc (Nat.le_refl _) _)) (by simpa using HB.out) (by simp) ?_;intro A' c' w' hown hgr hloc);go_ret;refine⟨A',c',by simp,by simpa using hown,((Below.refl _ w).alloc (Nat.le_refl _) _).grown hgr (by simp) (λk hk=>?_)⟩;simp[qa8]at hk
theorem qr5(w:World)(lo p:Nat)(A:Option Addr)(c:Nat)(l:List EntC)(h:qfi w lo p A c l)(hl:l.length<=1000000):Calls prog 364 #[.pointer (some ⟨p,0,none⟩)] w λe w'=>∃A' c',e=.returned (.slice A' l.length c')/\Own EntC.enc 334 5 w' w.heap.size A' c' l/\Below w.heap.size w w':=by
 have hp:=qa0 h.box;have p0:=cell_of_row w p 0 _ _ _ h.box;have T:=hid (qwv l A c w (h.rows.arr EntC.enc_len) hl);clear h;go_enter func364,ntmps364;go_wp2_with fail;refine T.out.mono ?_;rintro e w1⟨A',c',rfl,hown,hb⟩;have HH:=hid (And.intro hown hb);clear hown hb;go_wp2_with fail;go_ret;exact⟨A',c',rfl,HH.out.1,HH.out.2⟩
end
section
open Go.RowKit
theorem qct:(prog.info? 85).map (λi=>(i.zero,i.size,i.bytes))=some (some qak.val,5,48):=by kernel_rfl
theorem qdv{ops:Array Oper}{rest:List Oper}{o:Oper}{a:Act}{Q:Exit->Act->World->Prop}(w:World)(hgd:o.guard=none)(s x:Operand)
 (ho:o.op=.call {callee:=.builtin .append,args:=#[s,x],argTypes:=#[141,141]}) {lo:Nat} {A:Option Addr} {c:Nat} {l:List qa3} (hs:a.eval s=.slice A l.length c) (own:Own qa3.enc 85 5 w lo A c l)
 {B:Nat} {A2:Option Addr} {m:List qa3} (c2:Nat) (hx:a.eval x=.slice A2 m.length c2) (arr:Arr qa3.enc 5 w B A2 m) (hb:l.length+m.length<=1000000) (hlo:lo<=w.heap.size)
 (h:∀A' c' w',Own qa3.enc 85 5 w' lo A' c' (l++m)->w.grownBy w' (qa8 A c)->(A'=A/\c'=c\/∃g,A'=some ⟨g,0,none⟩/\w.heap.size<=g)->wpList prog ops Q rest (a.put o.dst (.slice A' (l.length+m.length) c')) w'):
 wpList prog ops Q (o::rest) a w:=by
 obtain⟨i0,hi,hz0,hz1,hz2⟩:=info_parts qct;exact qar w hgd s x 141 ho i0 _ 48 underlying141 hi hz0 hz1 hz2 rfl (by decide) qa3.enc_len qa3.enc_one hs own c2 hx arr (by unfold maxLen;omega) (by omega) hlo h
theorem Own.notBox{α:Type}{enc:α->List Value}{e t:TypeId}{k:Nat}{w:World}{lo:Nat}{A:Option Addr}{c p:Nat}{l:List α}{z:Array Value}(own:Own enc e k w lo A c l)(hb:w.heap[p]? =some (.cells z t (0,0)))(hne:e≠t):some p≠qa8 A c:=λhe=>by
 unfold qa8 at he
 split at he
 · cases he
 · rename_i hc
   rcases own.2.2 with h0|⟨b,off,cur,rfl, -,hh, -⟩
   · exact hc h0
   · cases he
     rw[hh]at hb
     cases hb
     exact hne rfl
theorem qdu{w:World}{vb:Nat}{x:qa3}(hv:w.heap[vb]? =some (.cells x.enc.toArray 85 (0,0))):Arr qa3.enc 5 w w.heap.size (some ⟨vb,0,none⟩) [x]:=by
 refine Arr.of_cells qa3.enc_len ?_ λj u hu=>?_
 · exact qa0 hv
 · rw[Nat.zero_add,cell_of_row w vb j _ _ _ hv,List.getElem?_toArray]
   simpa using hu
def qd4(L:List qa3)(at' n:Nat):List qa3:=(L.drop at'++L.take at').take n
theorem qbf{L:List qa3}{at' n:Nat}(h:n<=L.length):(qd4 L at' n).length=n:=by
 simp only[qd4,List.length_take,List.length_append,List.length_drop];omega
theorem qe6{L:List qa3}{at' n i:Nat}(h:n<=L.length)(ha:at'<L.length)(hi:i<n):(qd4 L at' n)[i]'(by rw[qbf h];exact hi)=L[(at'+i)%L.length]'(Nat.mod_lt _ (by omega)):=by
 simp only[qd4,List.getElem_take,List.getElem_append,List.length_drop,List.getElem_drop];split
 · rename_i h1
   congr 1;rw[Nat.mod_eq_of_lt (by omega)]
 · rename_i h1
   congr 1;rw[Nat.mod_eq_sub_mod (by omega),Nat.mod_eq_of_lt (by omega)];omega
theorem qq2{L:List qa3}{at' n:Nat}(h:n<L.length)(ha:at'<L.length)(x:qa3):qd4 (L.set ((at'+n)%L.length) x) at' (n+1)=qd4 L at' n++[x]:=by
 have hm:(at'+n)%L.length<L.length:=Nat.mod_lt _ (by omega);apply List.ext_getElem
 · rw[qbf (by rw[List.length_set];omega),List.length_append,qbf (by omega)];rfl
 · intro i h1 h2
   rw[qbf (by rw[List.length_set];omega)]at h1;rw[qe6 (by rw[List.length_set];omega) (by rw[List.length_set];omega) h1,List.getElem_append];simp only[List.length_set,List.getElem_set];by_cases hin:i<n
   · rw[dif_pos (by rw[qbf (by omega)];exact hin),qe6 (by omega) ha hin,if_neg ?_]
     intro he;by_cases g1:at'+n<L.length
     · rw[Nat.mod_eq_of_lt g1]at he
       rw[Nat.mod_eq_of_lt (by omega)]at he;omega
     · rw[Nat.mod_eq_sub_mod (by omega),Nat.mod_eq_of_lt (by omega)]at he
       by_cases g2:at'+i<L.length
       · rw[Nat.mod_eq_of_lt g2]at he;omega
       · rw[Nat.mod_eq_sub_mod (by omega),Nat.mod_eq_of_lt (by omega)]at he;omega
   · obtain rfl:i=n:=by omega
     rw[dif_neg (by rw[qbf (by omega)];omega),if_pos rfl];simp[qbf (show i<=L.length by omega)]
theorem qs0{L:List qa3}{at':Nat}(h:at'<=L.length)(x:qa3):qd4 (L.drop at'++L.take at'++[x]) 0 (L.length+1)=qd4 L at' L.length++[x]:=by
 have hl:(L.drop at'++L.take at').length=L.length:=by
  simp only[List.length_append,List.length_drop,List.length_take];omega
 have h1:(L.drop at'++L.take at'++[x]).length=L.length+1:=by rw[List.length_append,hl];rfl
 unfold qd4;rw[List.drop_zero,List.take_zero,List.append_nil,List.take_of_length_le (Nat.le_of_eq h1),List.take_of_length_le (Nat.le_of_eq hl)]
def qmi(w:World)(lo p:Nat)(A:Option Addr)(c:Nat)(Q:List qa3):Prop:=∃L at' n,qbo w lo p A c L at' n/\Q=qd4 L at' n
theorem qbo.keep{w w':World}{lo p c at' n:Nat}{A:Option Addr}{L:List qa3}(h:qbo w lo p A c L at' n)(h1:w'.heap[p]? =w.heap[p]?)(h2:∀b,some b=qa8 A c->b<w.heap.size->w'.heap[b]? =w.heap[b]?):qbo w' lo p A c L at' n:=by
 refine⟨h1.trans h.box,?_,h.lo,h.fit,h.nil⟩;by_cases h0:c=0
 · exact⟨h.rows.1,h.rows.2.1,.inl h0⟩
 · exact h.rows.keep λb off hA _ hlt=>h2 b (by rw[qa8,if_neg h0,hA];rfl) hlt
def Ring(w:World)(p K:Nat):Prop:=∀A n c,w.cell? ⟨p,0,none⟩=some (.slice A n c)->n<=K
theorem Ring.of_box{w:World}{p K n c:Nat}{A:Option Addr}{u v:Value}{t:TypeId}(h:w.heap[p]? =some (.cells #[.slice A n c,u,v] t (0,0)))(hn:n<=K):Ring w p K:=λA' n' c' hc=>by
 rw[cell_of_row w p 0 _ _ _ h]at hc
 cases hc
 exact hn
theorem Ring.len{w:World}{p K n c:Nat}{A:Option Addr}{u v:Value}{t:TypeId}(h:Ring w p K)(hb:w.heap[p]? =some (.cells #[.slice A n c,u,v] t (0,0))):n<=K:=h A n c (cell_of_row w p 0 _ _ _ hb)
theorem Ring.same{w w':World}{p K:Nat}(h:Ring w p K)(hb:w'.heap[p]? =w.heap[p]?):Ring w' p K:=λA n c hc=>h A n c (by rw[<-hc];exact(World.cell?_of_block (w:=w) hb).symm)
structure qv1(lo p:Nat)(A:Option Addr)(c:Nat)(Q:List qa3)(w w':World):Prop where
 q:∃A' c',qmi w' lo p A' c' Q/\(A'=A/\c'=c\/∃g off,A'=some ⟨g,off,none⟩/\w.heap.size<=g)
 below:Below lo w w'
 keep:∀b,b<w.heap.size->b≠p->some b≠qa8 A c->w'.heap[b]? =w.heap[b]?
 ring:∀K,Ring w p K->Q.length<=K->Ring w' p K
def qff(lo p:Nat)(A:Option Addr)(c:Nat)(Q:List qa3)(w:World)(e:Ending)(w':World):Prop:=e=.returned (.tuple #[])/\qv1 lo p A c Q w w'
theorem box3{w:World}{p:Nat}{t:TypeId}{a b c a' b' c':Value}(h:w.heap[p]? =some (.cells #[a,b,c] t (0,0))):(((w.setCell ⟨p,0,none⟩ a').setCell ⟨p,1,none⟩ b').setCell ⟨p,2,none⟩ c').heap[p]? =some (.cells #[a',b',c'] t (0,0)):=
 heap_setCell_same _ p 2 _ _ c' (heap_setCell_same _ p 1 _ _ b' (heap_setCell_same w p 0 _ _ a' h))
theorem qk7(n:Nat):(madeCells qak.val.cells (n*5)).size=n*5:=by rw[size_madeCells]
theorem qjx(w:World)(lo p:Nat)(A:Option Addr)(c:Nat)(L:List qa3)(at':Nat)(x:qa3)(h:qbo w lo p A c L at' L.length)(hlow:lo<=w.heap.size)(hn:L.length<=100000):Calls prog 329 #[.pointer (some ⟨p,0,none⟩),x.val] w (qff lo p A c (qd4 L at' L.length++[x]) w):=by
 have hp:=qa0 h.box;have hat:at'<=L.length:=by
  rcases h.fit.2 with h0|h0
  · have:=(h.nil (List.eq_nil_of_length_eq_zero h0)).2.2
    omega
  · omega
 have hlc:L.length<=c:=h.rows.1;have hati:(at':Int)<=(L.length:Int):=by omega
 have hatc:(at':Int)<=(c:Int):=by omega
 have H:=hid h;have HXV:=hid (show x.val=.agg #[.string x.key,.int .u64 (x.id:Int),.int .u64 (x.ver:Int),.int .i64 x.line,.int .i64 x.cls]from rfl);obtain⟨i0,hi,hz0,hz1,hz2⟩:=info_parts qct;have MK:=λW=>run_make (P:=prog) W 141 85 i0 _ underlying141 hi hz0 .i64 .i64 0 (2*(L.length:Int)+1) (by omega) (by omega) (by rw[hz2];omega) (by omega)
 rw[hz1]at MK;simp only[Int.toNat_zero,show(2*(L.length:Int)+1).toNat=2*L.length+1 by omega]at MK;clear hi hz0 hz1 hz2;rw[HXV.out];go_enter func329,ntmps329;go_upto_region 1 with fail;generalize hw1:World.alloc w _=w1;have R1:w1.heap[w.heap.size]? =some (.cells x.enc.toArray 85 (0,0)):=by rw[<-hw1];exact(qa2 _ _ _).trans (if_pos rfl)
 have b1:Below w.heap.size w w1:=by rw[<-hw1];exact(Below.refl _ _).alloc (Nat.le_refl _) _
 have HR1:=hid R1;have HB1:=hid b1;have H1:=hid (h.keep (b1.block p hp) (λb _ hlt=>b1.block b hlt));have hp1:=qa0 H1.out.box;have p0:=cell_of_row w1 p 0 _ _ _ H1.out.box;have p1:=cell_of_row w1 p 1 _ _ _ H1.out.box;have p2:=cell_of_row w1 p 2 _ _ _ H1.out.box;have hl1:=qa0 R1;clear hw1 R1 b1;go_quiet (fail);go_upto_region 3 with fail;generalize hw2:World.alloc _ _=w2;have b2:Below w1.heap.size w1 w2:=by rw[<-hw2];exact(qa1 (Below.refl _ _) _).alloc (Nat.le_refl _) _
 have O2:Own qa3.enc 85 5 w2 w1.heap.size (some ⟨w1.heap.size,0,none⟩) (2*L.length+1) []:=by
  refine⟨by simp,by unfold maxLen;omega,.inr ⟨w1.heap.size,0,madeCells qak.val.cells ((2*L.length+1)*5),rfl,Nat.le_refl _,?_,by rw[qk7];omega,by simp⟩⟩;rw[<-hw2];exact(qa2 _ _ _).trans (if_pos rfl)
 have HB2:=hid b2;have HO2:=hid O2;have H2:=hid (H1.out.keep (b2.block p hp1) (λb _ hlt=>b2.block b hlt));have hp2:=qa0 H2.out.box;clear p0 p1 p2;have p0:=cell_of_row w2 p 0 _ _ _ H2.out.box;have p1:=cell_of_row w2 p 1 _ _ _ H2.out.box;have p2:=cell_of_row w2 p 2 _ _ _ H2.out.box;clear hw2 b2 O2 MK;have hdl:(L.drop at').length=L.length-at':=List.length_drop;have htl:(L.take at').length=at':=by rw[List.length_take];omega
 go_cut [4] (λv4 wx=>∃A3 c3,v4=.slice A3 (L.drop at').length c3/\Own qa3.enc 85 5 wx w1.heap.size A3 c3 (L.drop at')/\Below w1.heap.size w1 wx)
 case first =>
  go_still_tail 10,(by kernel_rfl);by_cases hca:c=at'
  case pos =>
   have hd:L.drop at'=[]:=List.drop_of_length_le (by omega);have ARR:∀W B A2,Arr qa3.enc 5 W B A2 (L.drop at'):=λW B A2=>by rw[hd];exact Arr.nil
   go_wp2_with(at_builtin;refine qdv (l:=[]) (m:=L.drop at') (A:=some ⟨w1.heap.size,0,none⟩) (c:=2*L.length+1) (lo:=w1.heap.size) _ rfl (.tmp 22) (.tmp 31) rfl (by simp[Act.eval]) HO2.out.drew (B:=w2.heap.size) (A2:=A) (c-at') (by simp[Act.eval,hca]) (ARR _ _ _) (by simp;omega) HB2.out.size ?_;intro A3 c3 w3 hown3 hgr3 hloc3);have b3:Below w1.heap.size w1 w3:=qck HO2.out.drew hgr3 HB2.out.drew HB2.out.size;go_meet;exact⟨A3,c3,by simp[hd],hown3,b3⟩
  case neg =>
   have ARR:=(H2.out.rows.arr qa3.enc_len).drop (m:=at') (c:=c) (by omega) hlc;rw[if_neg hca]at ARR;go_wp2_with(at_builtin;refine qdv (l:=[]) (m:=L.drop at') (A:=some ⟨w1.heap.size,0,none⟩) (c:=2*L.length+1) (lo:=w1.heap.size) _ rfl (.tmp 22) (.tmp 31) rfl (by simp[Act.eval]) HO2.out.drew (B:=w2.heap.size) (A2:=A.map (·.add (at'*5))) (c-at') (by simp[Act.eval,hca]) ARR (by simp;omega) HB2.out.size ?_;intro A3 c3 w3 hown3 hgr3 hloc3);have b3:Below w1.heap.size w1 w3:=qck HO2.out.drew hgr3 HB2.out.drew HB2.out.size;go_meet;exact⟨A3,c3,by simp[hdl],hown3,b3⟩
 case rest =>
  obtain⟨A3,c3,rfl,hown3,b3⟩:=hcut;obtain⟨w3,hw3⟩:∃x,x=wc:=⟨_,rfl⟩;subst hw3;have HO3:=hid hown3;have HB3:=hid b3;have H3:=hid (H1.out.keep (b3.block p hp1) (λb _ hlt=>b3.block b hlt));have hp3:=qa0 H3.out.box;clear p0 p1 p2 hp2 HO2 H2 HB2 hown3 b3;have p0:=cell_of_row w3 p 0 _ _ _ H3.out.box;have p1:=cell_of_row w3 p 1 _ _ _ H3.out.box;have p2:=cell_of_row w3 p 2 _ _ _ H3.out.box;obtain⟨M,hM⟩:∃M,M=L.drop at'++L.take at':=⟨_,rfl⟩;have hlen:M.length=L.length:=by rw[hM,List.length_append,hdl,htl,Nat.sub_add_cancel hat]
  have HM:=hid hM;have HLEN:=hid hlen;clear hM hlen;go_upto_region 4 with fail;go_cut [4] (λv4 wx=>∃A4 c4,v4=.slice A4 M.length c4/\Own qa3.enc 85 5 wx w1.heap.size A4 c4 M/\Below w1.heap.size w1 wx)
  case first =>
   have ARR:=(H3.out.rows.arr qa3.enc_len).take at';go_still_tail 10,(by kernel_rfl);go_wp2_with(at_builtin;refine qdv (l:=L.drop at') (m:=L.take at') (A:=A3) (c:=c3) (lo:=w1.heap.size) _ rfl (.tmp 33) (.tmp 42) rfl (by simp[Act.eval]) HO3.out.drew (B:=w3.heap.size) (A2:=A) c (by simp[Act.eval,htl]) ARR (by simp;omega) HB3.out.size ?_;intro A4 c4 w4 hown4 hgr4 hloc4);have b4:Below w1.heap.size w1 w4:=qck HO3.out.drew hgr4 HB3.out.drew HB3.out.size;go_meet;exact⟨A4,c4,by rw[HLEN.out],HM.out ▸ hown4,b4⟩
  case rest =>
   obtain⟨A4,c4,rfl,hown4,b4⟩:=hcut;obtain⟨w4,hw4⟩:∃x,x=wc:=⟨_,rfl⟩;subst hw4;have HO4:=hid hown4;have HB4:=hid b4;have H4:=hid (H1.out.keep (b4.block p hp1) (λb _ hlt=>b4.block b hlt));have R4:=(b4.block _ hl1).trans HR1.out;have hp4:=qa0 H4.out.box;have hl4:=qa0 R4;clear p0 p1 p2 hp3 HO3 H3 HB3 hown4 b4;have r0:=cell_of_row w4 _ 0 _ _ _ R4;have r1:=cell_of_row w4 _ 1 _ _ _ R4;have r2:=cell_of_row w4 _ 2 _ _ _ R4;have r3:=cell_of_row w4 _ 3 _ _ _ R4;have r4:=cell_of_row w4 _ 4 _ _ _ R4;simp only[qa3.enc,List.getElem?_toArray,List.getElem?_cons_zero,List.getElem?_cons_succ]at r0 r1 r2 r3 r4;clear hdl htl hlc hati hatc;go_wp2_with(at_builtin;refine qdv (l:=M) (m:=[x]) (A:=A4) (c:=c4) (lo:=w1.heap.size) _ rfl (.tmp 46) (.tmp 48) rfl (by simp[Act.eval]) (HO4.out.alloc _) (A2:=some ⟨w4.heap.size,0,none⟩) 1 (by simp[Act.eval]) (qdu (x:=x) ((qa2 _ _ _).trans (if_pos rfl))) (by rw[HLEN.out];simp;omega) (by have:=HB4.out.size;simp;omega) ?_;intro A5 c5 w5 hown5 hgr5 hloc5;have b5:Below w1.heap.size w1 w5:=qck (HO4.out.alloc _) hgr5 (HB4.out.alloc HB4.out.size _) (by have:=HB4.out.size;simp;omega);have H5:=hid (H1.out.keep (b5.block p hp1) (λb _ hlt=>b5.block b hlt));have hp5:=qa0 H5.out.box;have p0:=cell_of_row w5 p 0 _ _ _ H5.out.box;have p1:=cell_of_row w5 p 1 _ _ _ H5.out.box;have p2:=cell_of_row w5 p 2 _ _ _ H5.out.box;have f0:=frozen_of_row w5 p 0 _ _ H5.out.box;have f1:=frozen_of_row w5 p 1 _ _ H5.out.box;have f2:=frozen_of_row w5 p 2 _ _ H5.out.box;have HO5:=hid hown5;have HB5:=hid b5;clear hown5 hgr5 hloc5 b5);have hs1:=HB1.out.size;refine bodyPost_ret (v:=.tuple #[]) (by simp[results,results329]) rfl ⟨rfl,⟨⟨A5,c5,⟨M++[x],0,L.length+1,⟨by rw[List.length_append];exact box3 H5.out.box,?_,h.lo,by rw[List.length_append,HLEN.out];simp,by simp⟩,?_⟩,?_⟩,?_,λb hb hbp _=>?_,λK _ hK=>Ring.of_box (box3 H5.out.box) ?_⟩⟩
   · exact(((HO5.out.setCell hp1 _).setCell hp1 _).setCell hp1 _).lower (Nat.le_trans hlow hs1)
   · rw[HM.out]
     exact(qs0 hat x).symm
   · rcases HO5.out.lt with h0|⟨b,off,hA,hB, -⟩
     · have:=HO5.out.len
       rw[List.length_append,h0]at this;simp at this
     · exact .inr ⟨b,off,hA,Nat.le_trans hs1 hB⟩
   · exact((((HB1.out.trans (HB5.out.mono hs1)).mono hlow).setCell h.lo _).setCell h.lo _).setCell h.lo _
   · rw[Below.heap_setCell _ _ _ _ hbp,Below.heap_setCell _ _ _ _ hbp,Below.heap_setCell _ _ _ _ hbp,HB5.out.block b (Nat.lt_of_lt_of_le hb hs1),HB1.out.block b hb]
   · rw[List.length_append,qbf (Nat.le_refl _)]at hK
     rw[HLEN.out];exact hK
end
end Go.Proofs.YtecikkjbnkhhkaaGreat
