/- A part of the walk. -/
import Derived.Test.YtecikkjbnkhhkaaGreatP05
namespace Go.Proofs.YtecikkjbnkhhkaaGreat
open _root_.Go.Proofs.Tryz
open Go.RowKit
structure qab where
 now:List UInt8
 kept:List UInt8
 way:List UInt8
 sent:Bool
 hn:now.length=64
 hk:kept.length=64
 hw:way.length=64
def qab.enc(x:qab):List Value:=byC x.now++byC x.kept++byC x.way++[.bool x.sent]
theorem qab.enc_len(x:qab):x.enc.length=193:=by simp[qab.enc,qad,x.hn,x.hk,x.hw]
theorem qab.e_now(x:qab){j:Nat}(hj:j<64):x.enc[j]? =(byC x.now)[j]? :=by
 rw[qab.enc,List.getElem?_append_left (by simp[qad,x.hn,x.hk,x.hw];omega),List.getElem?_append_left (by simp[qad,x.hn,x.hk];omega),List.getElem?_append_left (by simp[qad,x.hn];omega)]
theorem qab.e_kept(x:qab){j:Nat}(hj:j<64):x.enc[64+j]? =(byC x.kept)[j]? :=by
 rw[qab.enc,List.getElem?_append_left (by simp[qad,x.hn,x.hk,x.hw];omega),List.getElem?_append_left (by simp[qad,x.hn,x.hk];omega),List.getElem?_append_right (by simp[qad,x.hn])];simp[qad,x.hn]
theorem qab.e_way(x:qab){j:Nat}(hj:j<64):x.enc[128+j]? =(byC x.way)[j]? :=by
 rw[qab.enc,List.getElem?_append_left (by simp[qad,x.hn,x.hk,x.hw];omega),List.getElem?_append_right (by simp[qad,x.hn,x.hk])];simp[qad,x.hn,x.hk]
theorem qab.e_sent(x:qab):x.enc[192]? =some (.bool x.sent):=by
 rw[qab.enc,List.getElem?_append_right (by simp[qad,x.hn,x.hk,x.hw])];simp[qad,x.hn,x.hk,x.hw]
theorem Own.setPart{α:Type}{enc:α->List Value}{e:TypeId}{k:Nat}(hk:∀x,(enc x).length=k){w:World}{lo b off c:Nat}{l:List α}(h:Own enc e k w lo (some ⟨b,off,none⟩) c l){i:Nat}(hi:i<l.length)(x:α)(o:Nat)(vs:List Value)(ho:o+vs.length<=k)
 (hsame:∀j,j<o\/o+vs.length<=j->(enc x)[j]? =(enc l[i])[j]?) (hnew:∀j,j<vs.length->(enc x)[o+j]? =vs[j]?):
 Own enc e k (w.setCells b (off+i*k+o) vs) lo (some ⟨b,off,none⟩) c (l.set i x):=by
 obtain⟨h1,h2,h3⟩:=h;have hic:(i+1)*k<=c*k:=Nat.mul_le_mul_right _ (by omega);rw[Nat.succ_mul]at hic;rcases h3 with h3|⟨b',off',cur,hA,hlo,hh,hs,hc⟩
 · omega
 cases hA
 obtain⟨cur',g1,g2,g3,g4,g5⟩:=qax vs (off+i*k+o) w cur hh (by omega);refine⟨by rw[List.length_set];exact h1,h2,.inr ⟨b,off,cur',rfl,hlo,g1,by omega,?_⟩⟩;intro j u hu;have hlt:=(List.getElem?_eq_some_iff.1 hu).1;rw[qao hk,List.length_set]at hlt;have hk0:0<k:=by
  rcases Nat.eq_zero_or_pos k with h0|h0
  · subst h0;omega
  · exact h0
 obtain⟨q,r,rfl,hq,hr⟩:∃q r,j=q*k+r/\q<l.length/\r<k:=⟨j/k,j%k,by rw[Nat.mul_comm];exact(Nat.div_add_mod j k).symm,(Nat.div_lt_iff_lt_mul hk0).2 hlt,Nat.mod_lt _ hk0⟩;rw[qb0 hk _ q (by rw[List.length_set];exact hq) r hr,List.getElem_set]at hu;have hold:=λu'=>hc (q*k+r) u'
 rw[qb0 hk l q hq r hr]at hold;by_cases hqi:i=q
 · subst hqi
   rw[if_pos rfl]at hu;by_cases h6:r<o\/o+vs.length<=r
   · rw[hsame r h6]at hu
     rcases h6 with h6|h6
     · rw[g3 _ (by omega)];exact hold u hu
     · rw[g4 _ (by omega)];exact hold u hu
   · obtain⟨s,rfl⟩:∃s,r=o+s:=⟨r-o,by omega⟩
     rw[hnew s (by omega)]at hu;have:=g5 s u hu;rwa [show off+(i*k+(o+s))=off+i*k+o+s by omega]
 · rw[if_neg hqi]at hu
   by_cases hlq:q<i
   · have:(q+1)*k<=i*k:=Nat.mul_le_mul_right _ (by omega)
     rw[Nat.succ_mul]at this;rw[g3 _ (by omega)];exact hold u hu
   · have:(i+1)*k<=q*k:=Nat.mul_le_mul_right _ (by omega)
     rw[Nat.succ_mul]at this;rw[g4 _ (by omega)];exact hold u hu
theorem Own.part{α:Type}{enc:α->List Value}{e:TypeId}{k:Nat}(hk:∀x,(enc x).length=k){w:World}{lo b off c:Nat}{l:List α}(h:Own enc e k w lo (some ⟨b,off,none⟩) c l){i:Nat}(hi:i<l.length){o:Nat}{vs:List Value}(ho:o+vs.length<=k)(hv:∀j,j<vs.length->(enc l[i])[o+j]? =vs[j]?):
 w.rangeAt b (off+i*k+o) vs/\w.there b (off+i*k+o) vs.length/\b<w.heap.size:=by
 obtain⟨h1,h2,h3⟩:=h;have hic:(i+1)*k<=c*k:=Nat.mul_le_mul_right _ (by omega);rw[Nat.succ_mul]at hic;rcases h3 with h3|⟨b',off',cur,hA,hlo,hh,hs,hc⟩
 · omega
 cases hA
 have hr:w.rangeAt b (off+i*k+o) vs:=λj v hj=>by
  have hjl:j<vs.length:=(List.getElem?_eq_some_iff.1 hj).1;have h5:=hc (i*k+(o+j)) v (by rw[qb0 hk l i hi (o+j) (by omega),hv j hjl];exact hj);rw[cell_of_row w b _ _ _ _ hh,<-h5];congr 1;omega
 refine⟨hr,λj hj=>⟨hr.isSome j hj,frozen_of_row w b _ _ _ hh⟩,qa0 hh⟩
theorem qgm{ops:Array Oper}{rest:List Oper}{o:Oper}{a:Act}{Q:Exit->Act->World->Prop}(w:World)(hgd:o.guard=none)(d s:Operand)
 (ho:o.op=.call {callee:=.builtin .copy,args:=#[d,s],argTypes:=#[86,86]}) {b off dLen dCap:Nat} (hd:a.eval d=.slice (some ⟨b,off,none⟩) dLen dCap) {A:Option Addr} {sCap:Nat} {m:List UInt8} (hs:a.eval s=.slice A m.length sCap)
 {B:Nat} (arr:Arr byE 1 w B A m) (hm:m≠ []) (hfit:m.length<=dLen) (ht:w.there b off m.length) (h:wpList prog ops Q rest (a.put o.dst (.int .i64 (m.length:Nat))) (w.setCells b off (byC m))):
 wpList prog ops Q (o::rest) a w:=by
 rcases arr with h0|⟨sb,so,rfl, -,hc⟩
 · exact absurd h0 hm
 have hsrc:∀j v,(byC m)[j]? =some v->w.cell? ((⟨sb,so,none⟩:Addr).add j)=some v:=λj v hv=>by
  have hj:j<m.length:=by have:=(List.getElem?_eq_some_iff.1 hv).1;rwa [qad]at this
  have h1:=hc j hj 0 (.int .u8 (m[j].toNat:Int)) rfl;rw[byC,List.getElem?_map,List.getElem?_eq_getElem hj]at hv;rw[Addr.add_mid,<-hv];simpa using h1
 have hn:(byC m).length=Nat.min m.length dLen:=by rw[qad];exact(Nat.min_eq_left hfit).symm
 have hr:=run_copy_cells (P:=prog) w 86 86 o.type 5 b off dLen dCap ⟨sb,so,none⟩ m.length sCap (byC m) underlying86 (by
  have:=qcu
  cases hq:prog.info? 5 with
  |none=>rw[hq]at this;cases this
  |some i=>rw[hq]at this;simp at this;simp[this]) hn hsrc (λj hj=>(ht j (by rwa [qad]at hj)).1) (λj hj=>(ht j (by rwa [qad]at hj)).2) qcw
 refine qbp w hgd d s 86 86 ho _ _ hd hs hr ?_;rw[show goInt (byC m).length=Value.int .i64 (m.length:Nat)by rw[qad];rfl];exact h
structure Old2(lo p q:Nat)(w w':World):Prop where
 below:Below lo w w'
 keep:∀b,b<w.heap.size->b≠p->b≠q->w'.heap[b]? =w.heap[b]?
theorem Old2.refl(lo p q:Nat)(w:World):Old2 lo p q w w:=⟨Below.refl _ _,λ_ _ _ _=>rfl⟩
theorem Old2.of_below{lo p q:Nat}{w w':World}(h:Below w.heap.size w w')(hlo:lo<=w.heap.size):Old2 lo p q w w':=⟨h.mono hlo,λb hb _ _=>h.block b hb⟩
theorem Old2.trans{lo p q:Nat}{a b c:World}(h:Old2 lo p q a b)(k:Old2 lo p q b c):Old2 lo p q a c:=⟨h.below.trans k.below,λi hi h1 h2=>(k.keep i (Nat.lt_of_lt_of_le hi h.below.size) h1 h2).trans (h.keep i hi h1 h2)⟩
theorem Old2.more{lo p q:Nat}{a b c:World}(h:Old2 lo p q a b)(k:Below b.heap.size b c)(hlo:lo<=b.heap.size):Old2 lo p q a c:=h.trans (Old2.of_below k hlo)
theorem Old2.setP{lo p q:Nat}{a w:World}(h:Old2 lo p q a w)(hp:lo<=p)(o:Nat)(u:Value):Old2 lo p q a (w.setCell ⟨p,o,none⟩ u):=⟨h.below.setCell hp u,λb hb hne hnq=>(Below.heap_setCell _ _ _ _ hne).trans (h.keep b hb hne hnq)⟩
theorem Old2.setsQ{lo p q:Nat}{a w:World}(h:Old2 lo p q a w)(hq:lo<=q)(o:Nat)(vs:List Value):Old2 lo p q a (w.setCells q o vs):=⟨qae hq _ _ _ h.below,λb hb hne hnq=>(qb2 q vs o w b hnq).trans (h.keep b hb hne hnq)⟩
theorem Own.of_heap{α:Type}{enc:α->List Value}{e:TypeId}{k:Nat}{w w':World}{lo b off c:Nat}{l:List α}(h:Own enc e k w lo (some ⟨b,off,none⟩) c l)(hh:w'.heap[b]? =w.heap[b]?):Own enc e k w' lo (some ⟨b,off,none⟩) c l:=by
 obtain⟨h1,h2,h3⟩:=h;refine⟨h1,h2,?_⟩;rcases h3 with h3|⟨b',off',cur,hA,hlo,hb,hs,hc⟩
 · exact .inl h3
 · cases hA
   exact .inr ⟨b,off,cur,rfl,hlo,hh.trans hb,hs,hc⟩
def qab.over(x:qab)(o:Nat)(m:List UInt8):qab:=if h:o+m.length<=64 then {x with now:=qbj x.now o m,hn:=by rw[qc1 (by rw[x.hn];exact h)];exact x.hn}else x
def qab.flush(x:qab):qab:={x with way:=x.now,sent:=true,hw:=x.hn}
def qab.fence(x:qab):qab:=if x.sent then {x with kept:=x.way,sent:=false,hk:=x.hw}else x
def qab.back(x:qab):qab:={x with kept:=x.now,sent:=false,hk:=x.hn}
theorem qab.over_same(x:qab){o:Nat}{m:List UInt8}(h:o+m.length<=64):∀j,j<o\/o+(byC m).length<=j->(x.over o m).enc[j]? =x.enc[j]? :=λj hj=>by
 rw[qad]at hj
 unfold qab.over
 rw[dif_pos h]
 by_cases h64:j<64
 · rw[qab.e_now _ h64,qab.e_now _ h64]
   show(byC (qbj x.now o m))[j]? =_
   rw[byC,byC,List.getElem?_map,List.getElem?_map,qbj]
   congr 1
   rcases hj with hj|hj
   · rw[List.append_assoc,List.getElem?_append_left (by rw[List.length_take,x.hn];omega),List.getElem?_take,if_pos hj]
   · rw[List.getElem?_append_right (by rw[List.length_append,List.length_take,x.hn];omega),List.getElem?_drop,List.length_append,List.length_take,x.hn]
     congr 1
     omega
 · have e:∀z:qab,z.enc[j]? =(byC z.kept++(byC z.way++[.bool z.sent]))[j-64]? :=λz=>by
    rw[qab.enc,List.append_assoc,List.append_assoc,List.getElem?_append_right (by rw[qad,z.hn];omega),qad,z.hn]
   rw[e,e]
theorem qab.over_new(x:qab){o:Nat}{m:List UInt8}(h:o+m.length<=64):∀j,j<(byC m).length->(x.over o m).enc[o+j]? =(byC m)[j]? :=λj hj=>by
 rw[qad]at hj
 unfold qab.over
 rw[dif_pos h,qab.e_now _ (by omega)]
 show(byC (qbj x.now o m))[o+j]? =_
 rw[byC,byC,List.getElem?_map,List.getElem?_map,qbj,List.append_assoc,List.getElem?_append_right (by rw[List.length_take,x.hn];omega),List.length_take,x.hn,show o+j-min o 64=j by omega,List.getElem?_append_left hj]
end Go.Proofs.YtecikkjbnkhhkaaGreat
