/- append onto an owned row that holds no string anywhere, room included: so it stays. -/
import Derived.Test.YtichfhpgdhdiaaaGreatJ46
import Derived.Test.YtichfhpgdhdiaaaGreatJ3
import Derived.Test.YtichfhpgdhdiaaaGreatKRJw
set_option maxRecDepth 100000
set_option maxHeartbeats 8000000
set_option linter.unusedVariables false
set_option linter.unusedSimpArgs false
namespace Go.Proofs.YtichfhpgdhdiaaaGreat
open Go.RowKit
def NoS(w:World)(v:Value):Prop:=∀g,v.ownBlock=some g→∀cs t fz,w.heap[g]?=some (.cells cs t fz)→∀s,Value.string s∉cs.toList
theorem NoS.keep{w w':World}{v:Value}{B n:Nat}{t:TypeId}{xs:List Value}(h:NoS w v)(ho:w.ownsRow B t 2 v n xs)(hb:Below w.heap.size w w'):NoS w' v:=fun g hg cs t fz hc=>by
 rw[hb.block g (ho.lt g hg).2]at hc;exact h g hg cs t fz hc
theorem nos_empty(w:World)(t:TypeId):NoS (w.alloc (.cells #[] t)) (.slice (some ⟨w.heap.size,0,none⟩) 0 0):=fun g hg cs t' fz hc s=>by
 obtain rfl:w.heap.size=g:=aB hg;have h0:(w.alloc (.cells #[] t)).heap[w.heap.size]?=some (.cells #[] t (0,0)):=heap_alloc_new w _;rw[h0]at hc;injection hc with hc;injection hc with hc;subst hc;simp
theorem pls_other{w w':World}{v z:Value}{q:List It}(h:og w z q)(ns:NoS w v)(hg:w.grownBy w' v.ownBlock):og w' z q:=by
 obtain⟨A,c,us,rfl,h1,h2,hc,he⟩:=h;refine⟨A,c,us,rfl,h1,h2,fun k x hk=>?_,he⟩;obtain⟨b,off,rfl,hx⟩:=hc k x hk;refine⟨b,off,rfl,hg.cell hx fun e=>?_⟩;have hus:=pR _ _ he;cases q with
 |nil=>rw[hus]at hk;simp at hk
 |cons y q =>
  obtain⟨b',off',e',hx2⟩:=hc 2 (.string (fu y.2)) (by rw[hus];rfl);injection e' with e';injection e' with e1 e2;subst e1 e2;unfold World.cell? at hx2;simp only at hx2;split at hx2
  ·rename_i cs t fz hcs
   simp only[Option.isSome_none,Bool.false_eq_true,if_false]at hx2;exact ns b e.symm cs t fz hcs _ (aV (by simpa using hx2))
  ·cases hx2
section
variable {P:Program}{w:World}
theorem run_append_nos(base:Nat)(t ty e:TypeId)(i:TypeInfo)(z:Value)(ht:P.underlying t=some (.slice e))(hi:P.info? e=some i)(hz:i.zero=some z)(hsize:i.size=2)(hby:i.bytes=16)(hzs:z.cells.size=2)(hzn:∀s,Value.string s∉z.cells.toList)(g n cap:Nat)(xs:List Value)(hown:w.ownsRow base e 2 (.slice (some ⟨g,0,none⟩) n cap) n xs)(hns:NoS w (.slice (some ⟨g,0,none⟩) n cap))(a:Addr)(m c:Nat)(news:List Value)(hl:news.length=m*2)(hnews:∀j u,news[j]?=some u→w.cell? (a.add j)=some u)(h1:∀u∈news,u.oneCell'=true)(hnn:∀s,Value.string s∉news)(h63:n+m≤maxLen)(hbytes:(n+m)*16≤140737488355328)(hbase:base≤w.heap.size):
  ∃v' w',(Builtin.append_ #[t,t] ty #[.slice (some ⟨g,0,none⟩) n cap,.slice (some a) m c]).run P w=.ok v' w'∧w'.ownsRow base e 2 v' (n+m) (xs++news)∧w.grownBy w' (some g)∧(∃g' cap',v'=.slice (some ⟨g',0,none⟩) (n+m) cap')∧NoS w' v':=by
 obtain⟨v',w',hrun,r1,r2,r4,_⟩:=run_append_own_at (P:=P) w base t ty e i z 2 16 ht hi hz hsize hby hzs fZ _ n xs hown a m c news hl hnews h1 h63 hbytes hbase;have r5:∃g' cap',v'=.slice (some ⟨g',0,none⟩) (n+m) cap':=by
  rcases r1.2 with ⟨h0,_⟩|⟨g',cap',_,hv,_⟩
  ·cases (r4.1 h0).1
  ·exact⟨g',cap',hv⟩
 refine⟨v',w',hrun,r1,r2,r5,?_⟩;clear r5;rcases hown.2 with ⟨h0,_⟩|⟨g',cap',cur,hv,hbg,hg,hnc,hcm,hcs,htake⟩
 ·cases h0
 ·cases hv;have hxs:∀s,Value.string s∉cur.toList:=hns g rfl cur e (0,0) hg;by_cases hroom:n+m≤cap
  ·have hfit:n*i.size+news.length≤cur.size:=by rw[hl,hcs,hsize,←dx];exact bT _ hroom
   have hr:=run_append_room (P:=P) w t ty e i ht hi g n cap cur hg a m c news (by rw[hsize];exact hl) hnews h1 hroom hfit;rw[hr]at hrun;injection hrun with e1 e2;subst e1 e2;intro g2 hg2 cs t2 fz hc s hs;obtain rfl:g=g2:=aB hg2;rw[setRow_heap w g cur _ e _ hg]at hc;injection hc with hc;injection hc with hc;subst hc;simp only[bq]at hs;rcases hs with (hs|hs)|hs
   ·exact hxs s (dZ hs)
   ·exact hnn s hs
   ·exact hxs s (List.mem_of_mem_drop hs)
  ·have holds:∀j u,xs[j]?=some u→w.cell? ((⟨g,0,none⟩:Addr).add j)=some u:=hown.cells (g:=g) rfl;have hr:=run_append_grow (P:=P) w t ty e i z ht hi hz ⟨g,0,none⟩ n cap xs (by rw[hsize];exact hown.1) holds a m c news (by rw[hsize];exact hl) hnews fZ (by unfold maxLen at h63;omega) (growslice_fits fZ (by rw[hby];exact hbytes));rw[hr]at hrun;injection hrun with e1 e2;subst e1 e2;intro g2 hg2 cs t2 fz hc s hs;obtain rfl:w.heap.size=g2:=aB hg2;have hnew:=heap_alloc_new w.drew (.cells (xs.toArray++news.toArray++Builtin.zeroCells z.cells (grownCap w (n+m) cap e-(n+m))) e);rw[show w.drew.heap.size=w.heap.size from rfl]at hnew
   rw[hnew]at hc;injection hc with hc;injection hc with hc;subst hc;simp only[Array.toList_append,bq]at hs;rcases hs with (hs|hs)|hs
   ·rw[←htake]at hs;exact hxs s (dZ hs)
   ·exact hnn s hs
   ·simp only[Builtin.zeroCells]at hs;simp at hs;obtain⟨j,_,he⟩:=hs;rw[getElem!_pos z.cells _ (Nat.mod_lt _ fZ )]at he;exact hzn s (by rw[←he];simp)
theorem wpList_append_nos{ops:Array Oper}{rest:List Oper}{o:Oper}{a:Go.Act}{Q:Exit→Go.Act→World→Prop}(hgd:o.guard=none)(s x:Operand)(t:TypeId)(ho:o.op=.call { callee:=.builtin .append,args:=#[s,x],argTypes:=#[t,t] })(base:Nat)(e:TypeId)(i:TypeInfo)(z:Value)(ht:P.underlying t=some (.slice e))(hi:P.info? e=some i)(hz:i.zero=some z)(hsize:i.size=2)(hby:i.bytes=16)(hzs:z.cells.size=2)(hzn:∀s,Value.string s∉z.cells.toList)(g n cap:Nat)(xs:List Value)(hs:a.eval s=.slice (some ⟨g,0,none⟩) n cap)(hown:w.ownsRow base e 2 (.slice (some ⟨g,0,none⟩) n cap) n xs)(hns:NoS w (.slice (some ⟨g,0,none⟩) n cap))(A:Option Addr)(m c:Nat)(news:List Value)(hx:a.eval x=.slice A m c)(hl:news.length=m*2)(hr:iM w A news)(h1:∀u∈news,u.oneCell'=true)(hnn:∀s,Value.string s∉news)(h63:n+m≤9223372036854775807)(hbytes:(n+m)*16≤140737488355328)(hbase:base≤w.heap.size)(h:∀v' w',w'.ownsRow base e 2 v' (n+m) (xs++news)→w.grownBy w' (some g)→(∃g' cap',v'=.slice (some ⟨g',0,none⟩) (n+m) cap')→NoS w' v'→wpList P ops Q rest (a.put o.dst v') w'):
  wpList P ops Q (o::rest) a w:=by
 refine wpList_plain hgd fun K hK=>?_
 have h63':n+m≤maxLen:=by unfold maxLen;omega
 rcases A with _|ad
 ·have hn:news = []:=by
   cases news with
   |nil=>rfl
   |cons u us =>
    obtain⟨_,_,e,_⟩:=hr 0 u rfl;cases e
  subst hn;have hm:m=0:=by have h2:m*2=0:=hl.symm;omega
  subst hm;have hrun:(Builtin.append_ #[t,t] o.type #[.slice (some ⟨g,0,none⟩) n cap,.slice none 0 c]).run P w=.ok (.slice (some ⟨g,0,none⟩) n cap) w:=by
   rcases hown.2 with ⟨h0,_⟩|⟨g',cap',cur,hv,_,_,hnc,_⟩
   ·cases h0
   ·cases hv;simp[Builtin.append_,run_underlying ht,sizeOf,typeInfo,hi,Builtin.lenOf,Builtin.firstCells,hnc,storeCells]
  unfold Oper.wp execOp;simp only[ho,resolve,invoke,builtin,Sem.run_bind,Sem.run_pure,Result.andThen_ok,fJ,dJ,eB,hs,hx,hrun];exact hK _ _ (h _ w (by simpa using hown) (World.grownBy.refl w _) ⟨g,cap,rfl⟩ hns)
 ·obtain⟨v',w',hrun,h2,h3,h4,h5⟩:=run_append_nos (P:=P) (w:=w) base t o.type e i z ht hi hz hsize hby hzs hzn g n cap xs hown hns ad m c news hl hr.kit h1 hnn h63' hbytes hbase;unfold Oper.wp execOp;simp only[ho,resolve,invoke,builtin,Sem.run_bind,Sem.run_pure,Result.andThen_ok,fJ,dJ,eB,hs,hx,hrun];exact hK _ _ (h v' w' h2 h3 h4 h5)
end
end Go.Proofs.YtichfhpgdhdiaaaGreat
